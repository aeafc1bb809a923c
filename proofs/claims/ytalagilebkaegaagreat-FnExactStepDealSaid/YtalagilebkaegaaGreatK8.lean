/- Parts of a proof, joined: CC, CI, QM, QF1, QF2, QF3. -/
import Derived.Test.YtalagilebkaegaaGreatK7
import Derived.Lib.SliceRun
import Derived.Shelf.RegionOpenPlain
set_option linter.unusedVariables false
set_option linter.unusedSimpArgs false
namespace Go.Proofs.YtalagilebkaegaaGreat
noncomputable section
open Go.RowKit
set_option maxRecDepth 100000
abbrev Ag:=List UInt8
theorem zAB:∃i z,Tryz.prog.info? 146=some i/\i.size=2/\i.zero=some z/\z.cells.size=2/\i.bytes<=1000:=by
 have h:(match Tryz.prog.info? 146 with|some i=>(match i.zero with|some z=>i.size==2&&z.cells.size==2&&decide (i.bytes<=1000)|none=>false)|none=>false)=true:=by kernel_rfl
 split at h
 ·rename_i i hi;split at h
  ·rename_i z hz;simp only[Ab,AK,AR]at h;exact⟨i,z,hi,h.1.1,hz,h.1.2,h.2⟩
  ·cases h
 ·cases h
set_option maxHeartbeats 4000000 in
theorem zyS(w:World)(a:Option Addr)(n c:Nat)(cs:List Value)(hs:Src w 2 a n cs)(hb:n*1000<=140737488355328):
  Calls Tryz.prog 215 #[.slice a n c] w λe w'=> ∃a' c',e= .returned (.slice a' n c')/\Mod [] w w'/\(n=0/\c'=0\/ ∃g C,a'=some ⟨g,0,none⟩/\w.heap.size<=g/\Dk w' 146 2 g c' C n cs):=by
 obtain⟨i0,z0,hi,By,hz,CX,E4⟩:=zAB;have q22:∀(w:World) (a:Option Addr) (n c n' c':Nat),(binOp .eql 47 (.slice a n c) (.slice none n' c')).run Tryz.prog w= .ok (.bool a.isNone) w:=λw a n c n' c'=>Lib.run_eql_slice_nil w _ _ a n c n' c' Tryz.underlying47;cases a with
 |none=>
  obtain⟨_,rfl,rfl⟩:(none:Option Addr)=none/\n=0/\cs=[]:=by
   rcases hs with h|⟨ad,h,_⟩
   ·exact h
   ·cases h
  clear hs hb
  go_enter Tryz.func215,Tryz.ntmps215
  go_wp2
  go_ret
  exact⟨none,0,rfl,Mod.refl _ _,by simp⟩
 |some ad=>
  have Cj:Mod [] w (w.alloc (.cells #[] 146)):=(Mod.refl [] w).alloc _;have A4:Src (w.alloc (.cells #[] 146)) i0.size (some ad) n cs:=by rw[By];exact hs.mod Cj
  obtain⟨v',w1,hr,AN⟩:=Su (P:=Tryz.prog) (w.alloc (.cells #[] 146)) 47 47 146 i0 z0 Tryz.underlying47 hi hz (by rw[CX,By]) (by omega) (λ_=>False) (.slice (some ⟨w.heap.size,0,none⟩) 0 0) 0 [] (by simp) (.inl ⟨rfl,_,rfl⟩) (some ad) n c cs A4 (by simp only[maxLen];omega) (by have:=Nat.mul_le_mul_left n E4;rw[Nat.zero_add];omega)
  have fin:∃a' c',v'= .slice a' n c'/\Mod [] w w1/\(n=0/\c'=0\/ ∃g C,a'=some ⟨g,0,none⟩/\w.heap.size<=g/\Dk w1 146 2 g c' C n cs):=by
   rcases AN with⟨rfl,rfl,rfl⟩|⟨g,cap,C,rfl,h1,h2,h3,h4,h5,h6,h7⟩
   ·exact⟨_,_,rfl,Cj, .inl ⟨rfl,rfl⟩⟩
   ·have cF:(w.alloc (.cells #[] 146)).heap.size<=g:=by
     rcases h7 with⟨h,_⟩|h
     ·omega
     ·exact h.elim
    have JA:w.heap.size<=g:=by simp at cF;omega
    refine⟨_,_,by rw[Nat.zero_add],⟨h6.os.trans Cj.os,h6.tape.trans Cj.tape,h6.output.trans Cj.output,Nat.le_trans Cj.size h6.size,λb hb hn=> ?_⟩, .inr ⟨g,C,rfl,JA,by omega,h2,h3,by rw[h4,By],?_⟩⟩
    ·rw[h6.block b (by simp;omega) (λe=>by cases e;omega)];exact Cj.block b hb hn
    ·rw[Nat.zero_add,List.nil_append,By]at h5;exact h5.symm
  clear AN hs A4 Cj
  go_enter Tryz.func215,Tryz.ntmps215
  go_wp2_with (at_builtin;refine Lib.wpList_append_run _ rfl _ _ _ _ rfl _ _ rfl rfl _ _ hr ?_)
  go_ret
  obtain⟨a',c',rfl,h1,h2⟩:=fin
  exact⟨a',c',rfl,h1,h2⟩
theorem zCd:∃i z,Tryz.prog.info? 198=some i/\i.size=3/\i.zero=some z/\z.cells.size=3/\i.bytes<=1000:=by
 have h:(match Tryz.prog.info? 198 with|some i=>(match i.zero with|some z=>i.size==3&&z.cells.size==3&&decide (i.bytes<=1000)|none=>false)|none=>false)=true:=by kernel_rfl
 split at h
 ·rename_i i hi;split at h
  ·rename_i z hz;simp only[Ab,AK,AR]at h;exact⟨i,z,hi,h.1.1,hz,h.1.2,h.2⟩
  ·cases h
 ·cases h
set_option maxHeartbeats 4000000 in
theorem zAQ(w:World)(a:Option Addr)(n c:Nat)(cs:List Value)(hs:Src w 3 a n cs)(hb:n*1000<=140737488355328):
  Calls Tryz.prog 216 #[.slice a n c] w λe w'=> ∃a' c',e= .returned (.slice a' n c')/\Mod [] w w'/\(n=0/\c'=0\/ ∃g C,a'=some ⟨g,0,none⟩/\w.heap.size<=g/\Dk w' 198 3 g c' C n cs):=by
 obtain⟨i0,z0,hi,By,hz,CX,E4⟩:=zCd;have q22:∀(w:World) (a:Option Addr) (n c n' c':Nat),(binOp .eql 144 (.slice a n c) (.slice none n' c')).run Tryz.prog w= .ok (.bool a.isNone) w:=λw a n c n' c'=>Lib.run_eql_slice_nil w _ _ a n c n' c' Tryz.underlying144;cases a with
 |none=>
  obtain⟨_,rfl,rfl⟩:(none:Option Addr)=none/\n=0/\cs=[]:=by
   rcases hs with h|⟨ad,h,_⟩
   ·exact h
   ·cases h
  clear hs hb
  go_enter Tryz.func216,Tryz.ntmps216
  go_wp2
  go_ret
  exact⟨none,0,rfl,Mod.refl _ _,by simp⟩
 |some ad=>
  have Cj:Mod [] w (w.alloc (.cells #[] 198)):=(Mod.refl [] w).alloc _;have A4:Src (w.alloc (.cells #[] 198)) i0.size (some ad) n cs:=by rw[By];exact hs.mod Cj
  obtain⟨v',w1,hr,AN⟩:=Su (P:=Tryz.prog) (w.alloc (.cells #[] 198)) 144 144 198 i0 z0 Tryz.underlying144 hi hz (by rw[CX,By]) (by omega) (λ_=>False) (.slice (some ⟨w.heap.size,0,none⟩) 0 0) 0 [] (by simp) (.inl ⟨rfl,_,rfl⟩) (some ad) n c cs A4 (by simp only[maxLen];omega) (by have:=Nat.mul_le_mul_left n E4;rw[Nat.zero_add];omega)
  have fin:∃a' c',v'= .slice a' n c'/\Mod [] w w1/\(n=0/\c'=0\/ ∃g C,a'=some ⟨g,0,none⟩/\w.heap.size<=g/\Dk w1 198 3 g c' C n cs):=by
   rcases AN with⟨rfl,rfl,rfl⟩|⟨g,cap,C,rfl,h1,h2,h3,h4,h5,h6,h7⟩
   ·exact⟨_,_,rfl,Cj, .inl ⟨rfl,rfl⟩⟩
   ·have cF:(w.alloc (.cells #[] 198)).heap.size<=g:=by
     rcases h7 with⟨h,_⟩|h
     ·omega
     ·exact h.elim
    have JA:w.heap.size<=g:=by simp at cF;omega
    refine⟨_,_,by rw[Nat.zero_add],⟨h6.os.trans Cj.os,h6.tape.trans Cj.tape,h6.output.trans Cj.output,Nat.le_trans Cj.size h6.size,λb hb hn=> ?_⟩, .inr ⟨g,C,rfl,JA,by omega,h2,h3,by rw[h4,By],?_⟩⟩
    ·rw[h6.block b (by simp;omega) (λe=>by cases e;omega)];exact Cj.block b hb hn
    ·rw[Nat.zero_add,List.nil_append,By]at h5;exact h5.symm
  clear AN hs A4 Cj
  go_enter Tryz.func216,Tryz.ntmps216
  go_wp2_with (at_builtin;refine Lib.wpList_append_run _ rfl _ _ _ _ rfl _ _ rfl rfl _ _ hr ?_)
  go_ret
  obtain⟨a',c',rfl,h1,h2⟩:=fin
  exact⟨a',c',rfl,h1,h2⟩
abbrev Xf:List DT:=[.flat, .flat, .flat]
abbrev W9:List DT:=[.flat, .row 198 3 (Ay.of Xf)]
theorem zyp{l:List Ai}{k:Nat}(hk:k<l.length):(Aq (l.map DJ)).drop (k*2)= .str l[k].ah:: .sl (l[k].aw.map Ko)::(Aq (l.map DJ)).drop ((k+1)*2):=by
 have hx:∀y∈l.map DJ,y.cells.length=2:=λy hy=>by obtain⟨c,_,rfl⟩:=List.mem_map.1 hy;rfl
 have e1:=(R0 hx (i:=k) (by simp;omega)).2;have e2:=(R0 hx (i:=k+1) (by simp;omega)).2;rw[<-e1,<-e2,Bv (show k<(l.map DJ).length by simpa using hk)];simp[Aq,DJ,AV.cells]
theorem zCT{w:World}{u:Value}{ys:List AV}{g:List Nat}(h:Rd w [u] [.sl ys] g):∃a c,u= .slice a ys.length c:=by
 cases h with
 |du h=>exact⟨_,_,rfl⟩
 |scons q1 q2 q3 q4 q5 q6 q7 q8 q9 q10=>exact⟨_,_,by rw[q4]⟩
theorem zEs{w:World}{l:List Ai}{cs:List Value}{f:List Nat}(h:Rd w cs (Aq (l.map DJ)) f){k:Nat}(hk:k<l.length):
  ∃(s:ByteArray) (a:Option Addr) (c:Nat) (f1:List Nat),cs[k*2]?=some (.string s)/\s.data.toList=l[k].ah/\s.size<=9223372036854775807/\cs[k*2+1]?=some (.slice a l[k].aw.length c)/\Rd w [.slice a l[k].aw.length c] [.sl (l[k].aw.map Ko)] f1/\(∀b∈f1,b∈f):=by
 obtain⟨g,hg,hp⟩:=h.piece (k*2) 2;rw[zyp hk]at hp;simp only[List.take_succ_cons,List.take_zero]at hp;obtain⟨s,us,e1,e2,e3,hp⟩:=eR hp;have hl:=hp.len
 match us,hl with
 | [u],_=>
  have e4:cs[k*2]?=some (.string s):=by have:=congrArg (λL=>L[0]?) e1;simpa[List.getElem?_take,List.getElem?_drop]using this
  have e5:cs[k*2+1]?=some u:=by have:=congrArg (λL=>L[1]?) e1;simpa[List.getElem?_take,List.getElem?_drop]using this
  obtain⟨a,c,rfl⟩:=zCT hp;rw[List.length_map]at e5 hp;exact⟨s,a,c,g,e4,e2,e3,e5,hp,hg⟩
theorem rX{w:World}{v:Value}{ys:List AV}{f:List Nat}{K:Nat}(h:Rd w [v] [.sl ys] f)(hK:∀y∈ys,y.cells.length=K)(hb:ys.length<=9223372036854775807):
  ∃a c cs f1,v= .slice a ys.length c/\Src w K a ys.length cs/\Rd w cs (Aq ys) f1/\ ∀b∈f1,b∈f:=by
 cases h with
 |du h=>
  rename_i a c;refine⟨a,c,[],[],rfl,?_,by simpa[Aq]using Rd.nil,by simp⟩;cases a with
  |none=>exact .inl ⟨rfl,rfl,rfl⟩
  |some ad=>exact .inr ⟨ad,rfl,by simp,by simp,by simp⟩
 | @scons b o n c ys cs C ty fz sz f1 vs xs f2 q1 q2 q3 q4 q5 q6 q7 q8 q9 q10=>
  subst q4;have By:sz=K:=by
   cases ys with
   |nil=>simp at q2
   |cons y ys=>rw[<-q5 y (by simp),hK y (by simp)]
  subst By;refine⟨some ⟨b,o,none⟩,c,cs,f1,rfl, .inr ⟨⟨b,o,none⟩,rfl,?_,λj u hj=> ?_,q8⟩,q9,λx hx=>by simp[hx]⟩
  ·rw[q9.len,KI _ hK]
  ·rw[Addr.add_lit,EA q1];exact q7 j u hj
theorem xY{L:List Value}{k:Nat}{s v:Value}(hs:L[k*2]?=some s)(hl:k*2+1<L.length):(L.set (k*2+1) v).take ((k+1)*2)=L.take (k*2)++ [s,v]:=by rw[show(k+1)*2=k*2+1+1 by omega,List.take_add_one,List.take_add_one,List.take_set_of_le (by omega)];rw[List.getElem?_set_ne (by omega),hs,List.getElem?_set_self hl];simp
theorem zzL{L M:List Value}{k n:Nat}{v:Value}(h:(L.take (n*2)).drop (k*2)=M.drop (k*2)):((L.set (k*2+1) v).take (n*2)).drop ((k+1)*2)=M.drop ((k+1)*2):=by
 have e:((L.set (k*2+1) v).take (n*2)).drop ((k+1)*2)=(L.take (n*2)).drop ((k+1)*2):=by rw[List.take_set,List.drop_set_of_lt (by omega)]
 rw[e,show(k+1)*2=k*2+2 by omega,<-List.drop_drop,h,List.drop_drop]
def Sp(w1:World)(g cap n:Nat)(cs:List Value)(ys:List AV)(k:Nat)(wr:World):Prop:=
 ∃C N,wr.heap[g]?=some (.cells C 146 (0,0))/\C.size=cap*2/\(C.toList.take (n*2)).drop (k*2)=cs.drop (k*2)/\DC wr (BI k W9) (C.toList.take (k*2)) (Aq (ys.take k)) N/\(∀u∈C.toList.take (k*2),u.oneCell'=true)/\
  N.Nodup/\(∀b∈N,w1.heap.size<=b/\b<wr.heap.size)/\Mod [g] w1 wr
theorem Sp.next{w w1 wr w2:World}{g cap k:Nat}{cs cs':List Value}{l:List Ai}(hn:l.length<=cap)(Dy:Mod [] w w1)(JA:w.heap.size<=g)(qC:g<w1.heap.size)(hI:Sp w1 g cap l.length cs (l.map DJ) k wr)(hk:k<l.length)
  {s:ByteArray} {a':Option Addr} {c':Nat} (e1:cs[k*2]?=some (.string s)) (e2:s.data.toList=l[k].ah) (e3:s.size<=9223372036854775807) (I6:Rd w cs' (Aq (l[k].aw.map Ko)) []) (Ku:∀u∈cs',u.oneCell'=true)
  (CJ:Mod [] wr w2) (AN:l[k].aw.length=0/\c'=0\/ ∃g2 C2,a'=some ⟨g2,0,none⟩/\wr.heap.size<=g2/\Dk w2 198 3 g2 c' C2 l[k].aw.length cs'):
  Sp w1 g cap l.length cs (l.map DJ) (k+1) (w2.setCell ⟨g,k*2+1,none⟩ (.slice a' l[k].aw.length c')):=by
 obtain⟨C,N,i1,i2,i3,i4,i5,i6,i7,i8⟩:=hI;have Od:g<wr.heap.size:=Dp i1;have j1:w2.heap[g]?=some (.cells C 146 (0,0)):=by rw[CJ.block g Od (by simp)];exact i1
 have j2:=heap_setCell_same w2 g (k*2+1) C 146 (.slice a' l[k].aw.length c') j1;have DD:C.toList.length=cap*2:=by simpa using i2
 have TV:C.toList[k*2]?=some (.string s):=by have:=congrArg (λL=>L[0]?) i3;simp only[List.getElem?_drop,List.getElem?_take,Nat.add_zero]at this;rw[if_pos (by omega)]at this;rw[this];exact e1
 have hT:∃T,DC w2 [.row 198 3 (Ay.of Xf)] [.slice a' l[k].aw.length c'] [.sl (l[k].aw.map Ko)] T/\T.Nodup/\ ∀b∈T,wr.heap.size<=b/\b<w2.heap.size:=by
  rcases AN with⟨h0,rfl⟩|⟨g2,C2,rfl,hg2,r1,r2,r3,r4,r5⟩
  ·have:l[k].aw=[]:=List.eq_nil_of_length_eq_zero h0;rw[this];exact⟨[], .void (by omega) (by rw[Ay.au];rfl) .nil,by simp,by simp⟩
  ·have Aw:(C2.toList.take (l[k].aw.length*3)).length=l[k].aw.length*3:=by
    have:C2.toList.length=c'*3:=by simpa using r4
    rw[Au,this];omega
   have hd:=DC.jy (w:=w2) (I6.frame (by simp)) (ts:=BI l[k].aw.length Xf) (ZH _ rfl) (by rw[KJ,r5,Aw];rfl);rw[r5]at hd;have:=DC.row (w:=w2) (e:=198) (z:=3) (l:=Ay.of Xf) (g:=g2) (cap:=c') (C:=C2) (ys:=l[k].aw.map Ko) (N1:=[]) (ts:=[]) (vs:=[]) (xs:=[]) (N:=[]) (by omega) (by rw[Ay.au];rfl) r3 (by simpa using r1) r2 r4 (λy hy=>by obtain⟨x,_,rfl⟩:=List.mem_map.1 hy;rfl) (by rw[List.length_map,<-r5];exact Ku) (by rw[List.length_map,Ay.au];exact hd) .nil
   refine⟨[g2],by simpa using this,by simp,λb hb=> ?_⟩;simp only[List.mem_singleton]at hb;subst hb;exact⟨hg2,Dp r3⟩
 obtain⟨T,t1,t2,t3⟩:=hT;have hgT:g∉T:=λh=>by have:=(t3 g h).1;omega
 have cB:g∉N:=λh=>by have:=(i7 g h).1;omega
 have Lc:∀b,b≠g->(w2.setCell ⟨g,k*2+1,none⟩ (.slice a' l[k].aw.length c')).heap[b]?=w2.heap[b]?:=λb hb=>Below.heap_setCell _ _ _ _ (by simpa using hb);have By:(w2.setCell ⟨g,k*2+1,none⟩ (.slice a' l[k].aw.length c')).heap.size=w2.heap.size:=by simp[World.setCell]
 refine⟨_,N++T,j2,by simpa using i2,?_,?_,?_,?_,?_,?_⟩
 ·rw[Array.toList_setIfInBounds];exact zzL i3
 ·rw[Array.toList_setIfInBounds,xY TV (by rw[DD];omega),Nl,zBG,List.take_add_one,show(l.map DJ)[k]?=some (DJ l[k]) by simp[hk]];have e5:Aq ((l.map DJ).take k++(some (DJ l[k])).toList)=Aq ((l.map DJ).take k)++ [.str l[k].ah, .sl (l[k].aw.map Ko)]:=by simp[Aq,DJ,AV.cells]
  rw[e5];refine DC.app ((i4.frame (w':=w2) λb hb=>CJ.block b (i7 b hb).2 (by simp)).frame λb hb=>Lc b λe=>cB (e▸hb)) ?_;have GM:Rd (w2.setCell ⟨g,k*2+1,none⟩ (.slice a' l[k].aw.length c')) [.string s] [.str l[k].ah] []:=by rw[<-e2];exact .str e3 .nil
  exact .flat GM (t1.frame λb hb=>Lc b λe=>hgT (e▸hb))
 ·rw[Array.toList_setIfInBounds,xY TV (by rw[DD];omega)];intro u hu;rcases Ac.1 hu with hu|hu
  ·exact i5 u hu
  ·simp only[Ae,List.not_mem_nil,or_false]at hu;rcases hu with rfl|rfl<;>rfl
 ·exact List.nodup_append.2 ⟨i6,t2,λx hx y hy e=>by have:=(i7 x hx).2;have:=(t3 y hy).1;omega⟩
 ·intro b hb;rw[By];have:=CJ.size;have:=i8.size;rcases Ac.1 hb with hb|hb
  ·have:=i7 b hb;omega
  ·have:=t3 b hb;omega
 ·exact(i8.trans CJ (by simp)).setCell (by simp) _
set_option maxHeartbeats 4000000 in
theorem zx9(l:List Ai)(w:World)(v:Value)(f:List Nat)(hr:Rd w [v] [.sl (l.map DJ)] f)(hl:l.length*1000<=140737488355328)(hv:∀c∈l,c.aw.length*1000<=140737488355328):
  Calls Tryz.prog 154 #[v] w λe w'=> ∃v' N,e= .returned v'/\DC w' [.row 146 2 (Ay.of W9)] [v'] [.sl (l.map DJ)] N/\N.Nodup/\(∀b∈N,w.heap.size<=b/\b<w'.heap.size)/\Mod [] w w':=by
 obtain⟨a,c,cs,f1,rfl,hs,qU,_⟩:=rX (K:=2) hr (λy hy=>by obtain⟨x,_,rfl⟩:=List.mem_map.1 hy;rfl) (by simp;omega);rw[List.length_map]at hs ⊢;have Aw:=zyS w a l.length c cs hs hl;have H1:=Lib.hid qU;have H2:=Lib.hid hv;have H3:=Lib.hid hs;clear qU hv hs hr
 go_enter Tryz.func154,Tryz.ntmps154
 go_wp2_with (go_at_call 215;refine Aw.mono ?_;rintro e w1 ⟨a1,cap,rfl,Dy,h1⟩)
 have HM:=Lib.hid Dy;rcases h1 with⟨hz,rfl⟩|⟨g,C0,rfl,JA,AY⟩
 ·have Ix:l=[]:=List.eq_nil_of_length_eq_zero hz;subst Ix;clear Dy Aw
  go_loopw [9] (λs9 wr=>s9= .int .i64 0/\wr=w1) (λ_ _=>0)
  case atStart=>exact⟨rfl,rfl⟩
  case round=>
   obtain⟨rfl,rfl⟩:=hrel
   go_wp2
   go_ret
   exact⟨_,[],rfl, .void (by omega) (by rw[Ay.au];rfl) .nil,by simp,by simp,HM.out⟩
 ·have HI:Hid (Sp w1 g cap l.length cs (l.map DJ) 0 w1):=by
   obtain⟨r1,r2,r3,r4,r5⟩:=AY;exact⟨C0,[],r3,r4,by rw[Nat.zero_mul,List.drop_zero,List.drop_zero];exact r5.symm,by simpa[BI,Aq]using DC.nil,by simp,by simp,by simp,Mod.refl _ _⟩
  have Fi:l.length<=cap:=AY.1;have FY:cap<=9223372036854775807:=AY.2.1;have qC:g<w1.heap.size:=Dp AY.2.2.1;clear AY Dy Aw
  go_loopw [9] (λs9 wr=> ∃k:Nat,k<=l.length/\s9= .int .i64 k/\Hid (Sp w1 g cap l.length cs (l.map DJ) k wr)) (λs9 _=>l.length-(intOf s9).toNat)
  case atStart=>exact⟨0,by omega,rfl,HI⟩
  case round=>
   obtain⟨k,hk,rfl,HK⟩:=hrel;by_cases AG:k<l.length
   ·obtain⟨s,av,cv,fv,e1,e2,e3,e4,e5,_⟩:=zEs H1.out AG;obtain⟨b1,b2,cs',fv',b3,A4,I6,_⟩:=rX (K:=3) e5 (λy hy=>by obtain⟨x,_,rfl⟩:=List.mem_map.1 hy;rfl) (by have:=H2.out _ (AF AG);simp;omega);rw[List.length_map]at b3;cases b3;have B5:fv'=[]:=Hv I6 λy hy=>by
     unfold Aq at hy;obtain⟨x,hx,hy⟩:=List.mem_flatMap.1 hy;obtain⟨q,_,rfl⟩:=List.mem_map.1 hx;simp[Ko,AV.cells]at hy;rcases hy with rfl|rfl|rfl<;>rfl
    subst B5;rw[List.length_map]at A4;obtain⟨C,N,i1,i2,i3,i4,i5,i6,i7,i8⟩:=HK.out;have qM:Mod [] w wr:=HM.out.trans i8 (by simp;omega);have P1:=zAQ wr av l[k].aw.length cv cs' (A4.mod qM) (H2.out _ (AF AG));have Ir:C[k*2+1]?=some (.slice av l[k].aw.length cv):=by have:=congrArg (λL=>L[1]?) i3;simp only[List.getElem?_drop,List.getElem?_take]at this;rw[if_pos (by omega)]at this;rw[<-Array.getElem?_toList,this];exact e4
    have BW:wr.cell? ⟨g,k*2+1,none⟩=some (.slice av l[k].aw.length cv):=by rw[ZW i1];exact Ir
    have Od:g<wr.heap.size:=Dp i1;have BV:∀w2,Mod [] wr w2->w2.cell? ⟨g,k*2+1,none⟩=some (.slice av l[k].aw.length cv)/\w2.frozen? ⟨g,k*2+1,none⟩=false:=λw2 CJ=>by
     have j1:w2.heap[g]?=some (.cells C 146 (0,0)):=by rw[CJ.block g Od (by simp)];exact i1
     exact⟨by rw[ZW j1];exact Ir,Y5 j1⟩
    have Ku:∀u∈cs',u.oneCell'=true:=by
     rcases A4 with⟨_,_,rfl⟩|⟨_,_,_,_,h⟩
     ·simp
     ·exact h
    obtain⟨m,hm⟩:∃m,m=l[k].aw.length:=⟨_,rfl⟩
    rw[<-hm]at BW BV P1;have HE:=Lib.hid (And.intro hm (And.intro e1 (And.intro e2 (And.intro e3 (And.intro I6 Ku)))));have HA:=Lib.hid BV;clear BV hm e1 e2 e3 e4 e5 I6 Ku i1 i2 i3 i4 i5 i6 i7 i8 qM A4 Ir
    go_wp2_with (go_at_call 216;refine P1.mono ?_;rintro e w2 ⟨a',c',rfl,CJ,AN⟩;obtain⟨hc2,hf2⟩:=HA.out w2 CJ)
    go_roundw
    case rel=>
     obtain⟨hm,e1,e2,e3,I6,Ku⟩:=HE.out;subst hm;exact⟨k+1,by omega,by go_num,Sp.next Fi HM.out JA qC HK.out AG e1 e2 e3 I6 Ku CJ AN⟩
    case measure=>simp[intOf];omega
   ·obtain rfl:k=l.length:=by omega
    go_wp2
    go_ret
    obtain⟨C,N,i1,i2,i3,i4,i5,i6,i7,i8⟩:=HK.out;have hd:=DC.row (w:=wr) (e:=146) (z:=2) (l:=Ay.of W9) (g:=g) (cap:=cap) (C:=C) (ys:=l.map DJ) (N1:=N) (ts:=[]) (vs:=[]) (xs:=[]) (N:=[]) (by omega) (by rw[Ay.au];rfl) i1 (by simpa using Fi) FY i2 (λy hy=>by obtain⟨x,_,rfl⟩:=List.mem_map.1 hy;rfl) (by rw[List.length_map];exact i5) (by rw[List.length_map,Ay.au];have h4:=i4;rw[show List.take l.length (l.map DJ)=l.map DJ from List.take_of_length_le (by simp)]at h4;exact h4) .nil
    refine⟨_,g::N,rfl,by simpa using hd,List.nodup_cons.2 ⟨λh=>by have:=(i7 g h).1;omega,i6⟩,λb hb=> ?_,HM.out.trans i8 (by simp;omega)⟩;have:=HM.out.size;rcases Ae.1 hb with rfl|hb
    ·exact⟨JA,Dp i1⟩
    ·have:=i7 b hb;omega
def s5(P:Program)(sg:BZ)(f t el K:Nat)(l:List DT):Bool:=
 match P.funcs[f]?,sg f with
 |some fn,some s=>(match s.bz,s.res,s.ft,s.lo with
  | [],[true],[],[]=>true
  | [.ro],[true],[],[]=>true
  |_,_,_,_=>false)&&fn.body.isSome&& !(fn.name== "runtime.NumGoroutine")&&fn.params.toList==[t]&&(Dv fn s)==[t]&&fn.nfree==0&& !Ao P t&&A8 P t==[t]&&CR P t==some el&& !Ca P el&&KL (DB P t) el K l&&F4 P t [true]&&fn.params.size==1
 |_,_=>false
def Rb(l:List Ai):Option (List Ai):=AL (l.length*1000<=140737488355328/\ ∀c∈l,c.aw.length*1000<=140737488355328) (some l)
theorem zpx(a0 r:List Ai)(h:Rb a0=some r):Cl Tryz.prog B3 154 [.sl (a0.map DJ)] (.sl (r.map DJ)):=by
 obtain⟨⟨hb,hv⟩,h⟩:=F6 h;cases h;have hk:s5 Tryz.prog B3 154 47 146 2 W9=true:=by kernel_rfl
 have B5:∀r,IT Tryz.prog B3 154 r=true:=λ_=>by kernel_rfl
 unfold s5 at hk;split at hk
 ·rename_i fn s hf hs;simp only[Ab,Bf,AK]at hk;obtain⟨⟨⟨⟨⟨⟨⟨⟨⟨⟨⟨⟨g1,g2⟩,g3⟩,g4⟩,g5⟩,g6⟩,g7⟩,g8⟩,g9⟩,g10⟩,g11⟩,g12⟩,g13⟩:=hk;have g11:=Pf g11;obtain⟨hm,hr,Cz,B0⟩:(∀m∈s.bz,m= .ro)/\s.res=[true]/\s.ft=[]/\s.lo=[]:=by
   split at g1
   ·rename_i a b c d;exact⟨by rw[a];simp,b,c,d⟩
   ·rename_i a b c d;exact⟨by rw[a];simp,b,c,d⟩
   ·cases g1
  unfold Cl;rw[if_pos (KQ _ s hs)];refine⟨s,hs,fn,hf,g2,g3,by have:=B5 (a0.map DJ);unfold IT at this;rw[hf,hs]at this;exact this,by simp[g6,g13],by simp[Cz],λw vs rf lf A4 Ah hd _ B7 D1=> ?_⟩;obtain⟨Da,rfl⟩:=Ah.rd B0 hm;have Li:=Da.len
  match vs,Li with
  | [v],_=>
   refine(zx9 a0 w v rf Da hb hv).mono ?_;rintro e w' ⟨v',N,rfl,Bd,hN,Cd,Bp⟩;refine⟨_,rfl,⟨⟨_,[],[],N,[],[],rfl,?_,DL.il (by rw[g4,Cz];rfl) hm,by simpa using hN,?_,by simp⟩,Bp⟩⟩
   ·rw[g5];show D6 Tryz.prog w' _ s.res _ _ [] _;unfold D6;rw[hr,if_pos g12];refine⟨[v'],[.sl (a0.map DJ)],by rw[g7];simp,?_⟩;rw[g8];have:=Cr.deep (P:=Tryz.prog) (t:=47) (ts:=[]) (fl:=[true]) (us:=[]) (ys:=[]) (rf:=[]) (hs:=[]) rfl g9 g10 g11 Bd .nil;simpa using this
   ·intro b hb;rw[AE]at hb;exact⟨.inr (Cd b hb).1,(Cd b hb).2⟩
 ·cases hk
end
noncomputable section
open Go.RowKit Go.Sort
set_option maxRecDepth 100000
theorem u3{w:World}:∀{cs:List Value} {xs:List Int} {f:List Nat},Rd w cs (Aq (xs.map Ks)) f->cs=xs.map encI/\ ∀n∈xs,E3 .i64 n
 |cs,[],f,h=>by obtain⟨rfl,_⟩:=Pt (by simpa[Aq]using h);exact⟨rfl,by simp⟩
 |cs,x::xs,f,h=>by
  have h':Rd w cs (.int .i64 x::Aq (xs.map Ks)) f:=by simpa[Aq]using h
  obtain⟨us,rfl,hI,h2⟩:=Sy h';obtain⟨rfl,h3⟩:=u3 h2;exact⟨rfl,by simpa using⟨hI,h3⟩⟩
theorem zzU{w:World}:∀(r:List Int),(∀n∈r,E3 .i64 n)->Rd w (r.map encI) (Aq (r.map Ks)) []
 | [],_=>by simpa[Aq]using Rd.nil
 |n::r,h=>by
  have e:Aq ((n::r).map Ks)= .int .i64 n::Aq (r.map Ks):=by simp[Aq,Ks,AV.cells]
  rw[e,List.map_cons];exact Rd.int (h n (by simp)) (zzU r λx hx=>h x (by simp[hx]))
def Xu(xs:List Int):Option (List Int):=some (Lib.compact xs)
theorem zjc(a0 r:List Int)(h:Xu a0=some r):Cl Tryz.prog B3 172 [.sl (a0.map Ks)] (.sl (r.map Ks)):=by cases h;exact wA (enc:=encI) (av:=Ks) (dz:=0) u3 (λr h=>zzU r h) (λ_=>rfl) (λ_=>rfl) (t:=89) (el:=3) (by kernel_rfl) (λ_=>by kernel_rfl) (λblk cap zs w hH h1 h2=>Tryz.slices_Compact_int blk 0 cap zs w hH h1 h2) (λa cap w=>Tryz.slices_Compact_int_empty a cap w) a0
end
noncomputable section
open Go.RowKit
set_option maxRecDepth 100000
set_option maxHeartbeats 4000000
def Q5(a0:List (Ag))(v1 v2:Int):Option ((Int × Int) ⊕ Option (Int)):=
 if(decide (v2<(a0.length:Int)))then
  (An a0 v2).bind λy3=>
  if(decide ((IntKind.i64.wrap (v1-(y3.length:Int)))<0))then
   some (.inr (some (-1)))
  else
   some (.inl ((IntKind.i64.wrap (v1-(y3.length:Int))),(IntKind.i64.wrap (v2+1))))
 else
  some (.inr (some v1))
def Q8(a0:List (Ag))(a1:Int):Option (Int):=
 if(decide ((IntKind.i64.wrap (a1-(a0.length:Int)))<0))then
  some (-1)
 else
  Av (λs:Int × Int=>Q5 a0 s.1 s.2) ((IntKind.i64.wrap (a1-(a0.length:Int))),0)
def Ze(a0:BE)(a1:Int):Option (Int):=
 if(decide ((IntKind.i64.wrap (a1-(a0.bg.length:Int)))<0))then
  some (-1)
 else
  some (IntKind.i64.wrap (a1-(a0.bg.length:Int)))
def kA(a0:List BE)(a1:Int):Option (Int):=M0 Ze a0 a1
def YY(a0:Ai)(a1:Int):Option (Int):=
 if(decide ((IntKind.i64.wrap (a1-(a0.ah.length:Int)))<0))then
  some (-1)
 else
  (kA a0.aw (IntKind.i64.wrap (a1-(a0.ah.length:Int)))).bind λv1=>
  if(decide (v1<0))then
   some (-1)
  else
   some v1
def jF(a0:List Ai)(a1:Int):Option (Int):=M0 YY a0 a1
def YM(a0:Am)(a1:Int):Option (Int):=
 if(decide ((IntKind.i64.wrap (a1-(a0.ah.length:Int)))<0))then
  some (-1)
 else
  if(decide ((IntKind.i64.wrap ((IntKind.i64.wrap (a1-(a0.ah.length:Int)))-(a0.bg.length:Int)))<0))then
   some (-1)
  else
   some (IntKind.i64.wrap ((IntKind.i64.wrap (a1-(a0.ah.length:Int)))-(a0.bg.length:Int)))
def Yl(a0:List Am)(a1:Int):Option (Int):=M0 YM a0 a1
def Y0(a0:Ax)(a1:Int):Option (Int):=
 (Q8 a0.ak a1).bind λv1=>
 if(decide (v1<0))then
  some (-1)
 else
  (Yl a0.ab v1).bind λv2=>
  if(decide (v2<0))then
   some (-1)
  else
   some v2
def jG(a0:List Ax)(a1:Int):Option (Int):=M0 Y0 a0 a1
def YI(a0:List Bh)(a1:Int):Option (Int):=
 if(decide ((IntKind.i64.wrap (a1-(a0.length:Int)))<0))then
  some (-1)
 else
  some (IntKind.i64.wrap (a1-(a0.length:Int)))
def YB(a0:Aj)(a1:Int):Option (Int):=
 (jF a0.aj a1).bind λv1=>
 if(decide (v1<0))then
  some (-1)
 else
  (jG a0.ae v1).bind λv2=>
  if(decide (v2<0))then
   some (-1)
  else
   (YI a0.ao v2).bind λv3=>
   if(decide (v3<0))then
    some (-1)
   else
    some v3
def iM(a0:List Aj)(a1:Int):Option (Int):=M0 YB a0 a1
def YA(a0:AM)(a1:Int):Option (Int):=
 (Q8 a0.ak a1).bind λv1=>
 if(decide (v1<0))then
  some (-1)
 else
  (Yl a0.ab v1).bind λv2=>
  if(decide (v2<0))then
   some (-1)
  else
   some v2
def jX(a0:List AM)(a1:Int):Option (Int):=M0 YA a0 a1
def YT(a0:Az)(a1:Int):Option (Int):=
 (Q8 a0.az a1).bind λv1=>
 if(decide (v1<0))then
  some (-1)
 else
  (iM a0.ax v1).bind λv2=>
  if(decide (v2<0))then
   some (-1)
  else
   (jX a0.ar v2).bind λv3=>
   if(decide (v3<0))then
    some (-1)
   else
    some v3
def UG(a0:List (Ag))(v1:Int)(v2:List (Ag)):Option ((Int × List (Ag)) ⊕ Option (List (Ag))):=
 if(decide (v1<(a0.length:Int)))then
  (An a0 v1).bind λy3=>
  (An v2 v1).bind λy4=>
  some (.inl ((IntKind.i64.wrap (v1+1)),(v2.set (v1).toNat y3)))
 else
  some (.inr (some v2))
def Rf(a0:List (Ag)):Option (List (Ag)):=
 AL (0<=(a0.length:Int)/\(a0.length:Int)*16<=140737488355328/\(a0.length:Int)<=140737488355328)<|
 Av (λs:Int × List (Ag)=>UG a0 s.1 s.2) (0,(List.replicate ((a0.length:Int)).toNat ([]:Ag)))
def kW(a0:BE):Option (BE):=
 some a0
def kO(a0:List BE):Option (List BE):=toL kW (⟨0,([]:Ag),false⟩:BE) 32 a0
def Y7(a0:Ai):Option (Ai):=
 (kO a0.aw).bind λv1=>
 some (⟨a0.ah,v1⟩:Ai)
def jH(a0:List Ai):Option (List Ai):=toL Y7 (⟨([]:Ag),[]⟩:Ai) 40 a0
def jJ(a0:Am):Option (Am):=
 some a0
def Ym(a0:List Am):Option (List Am):=toL jJ (⟨([]:Ag),([]:Ag),false⟩:Am) 40 a0
def YR(a0:Ax):Option (Ax):=
 (Rf a0.ak).bind λv1=>
 (Ym a0.ab).bind λv2=>
 some (⟨a0.al,a0.af,a0.bq,v1,v2⟩:Ax)
def jQ(a0:List Ax):Option (List Ax):=toL YR (⟨0,0,0,[],[]⟩:Ax) 72 a0
def kL(a0:Bh):Option (Bh):=
 some a0
def jL(a0:List Bh):Option (List Bh):=toL kL (⟨0,false,0⟩:Bh) 24 a0
def Yw(a0:Aj):Option (Aj):=
 (jH a0.aj).bind λv1=>
 (jQ a0.ae).bind λv2=>
 (jL a0.ao).bind λv3=>
 some (⟨a0.aq,v1,v2,v3⟩:Aj)
def jY(a0:List Aj):Option (List Aj):=toL Yw (⟨0,[],[],[]⟩:Aj) 80 a0
def YL(a0:AM):Option (AM):=
 (Rf a0.ak).bind λv1=>
 (Ym a0.ab).bind λv2=>
 some (⟨a0.al,v1,v2⟩:AM)
def iO(a0:List AM):Option (List AM):=toL YL (⟨0,[],[]⟩:AM) 56 a0
def O6(a0:Az):Option (Az):=
 (Rf a0.az).bind λv1=>
 (jY a0.ax).bind λv2=>
 (iO a0.ar).bind λv3=>
 some (⟨v1,v2,v3⟩:Az)
def UL(a0:Ea):Option (Ea):=
 some a0
def IG(a0 a1 a2:Int):Option (Bool):=
 some ((decide (a0>=a1))&&(decide (a0<=a2)))
def Pa(a0:Int):Option (Bool):=
 (IG a0 0 100000).bind λv1=>
 some v1
def M9(a0:Int):Option (Bool):=
 (IG a0 1 100000).bind λv1=>
 some v1
def hP(v1:Int)(v3:Bool):Option ((Int) ⊕ Option (Bool)):=
 if(!v3)then
  some (.inr (some false))
 else
  some (.inl (IntKind.i64.wrap (v1+1)))
def UU(a1:Ag)(v1:Int)(y2:UInt8)(v4:Bool)(v5:Int):Option ((Bool × Int) ⊕ Option ((Int) ⊕ Option (Bool))):=
 if(decide (v5<(a1.length:Int)))then
  if v4 then
   some (.inl (true,(IntKind.i64.wrap (v5+1))))
  else
   (An a1 v5).bind λy6=>
   some (.inl (((y2.toNat:Int)==(y6.toNat:Int)),(IntKind.i64.wrap (v5+1))))
 else
  some (.inr (hP v1 v4))
def iD(a0 a1:Ag)(v1:Int):Option ((Int) ⊕ Option (Bool)):=
 if(decide (v1<(a0.length:Int)))then
  (An a0 v1).bind λy2=>
  Av (λs:Bool × Int=>UU a1 v1 y2 s.1 s.2) ((((decide ((y2.toNat:Int)>=97))&&(decide ((y2.toNat:Int)<=122)))||((decide ((y2.toNat:Int)>=48))&&(decide ((y2.toNat:Int)<=57)))),0)
 else
  some (.inr (some true))
def U0(a0 a1:Ag):Option (Bool):=
 Av (λs:Int=>iD a0 a1 s) 0
def Pd(a0:Ag):Option (Bool):=
 (IG (a0.length:Int) 1 12).bind λv1=>
 if v1 then
  (U0 a0 ([46,47]:Ag)).bind λv2=>
  some v2
 else
  some false
def Za(a0:Ag):Option (Bool):=
 if(decide ((a0.length:Int)<=24))then
  (U0 a0 ([46,45,44,95]:Ag)).bind λv1=>
  some v1
 else
  some false
def UW(a0 a1:Ag)(a2:Bool):Option (Bool):=
 (Pd a0).bind λv1=>
 if v1 then
  (Za a1).bind λv2=>
  some (v2&&((!a2)||(a1==([]:Ag))))
 else
  some false
def iQ(a0:Ai):Option (Bool):=
 (Pd a0.ah).bind λv1=>
 if v1 then
  (IG (a0.aw.length:Int) 1 16).bind λv2=>
  some v2
 else
  some false
def OZ(a0:Ai)(v3:Int):Option ((Int) ⊕ Option (Bool)):=
 if(decide (v3<(a0.aw.length:Int)))then
  (An a0.aw v3).bind λy4=>
  (M9 y4.af).bind λv5=>
  if v5 then
   (UW a0.ah y4.bg y4.bf).bind λv6=>
   if(decide (v3>0))then
    if v6 then
     (An a0.aw (IntKind.i64.wrap (v3-1))).bind λy7=>
     if(decide (y7.af>=y4.af))then
      some (.inr (some false))
     else
      some (.inl (IntKind.i64.wrap (v3+1)))
    else
     some (.inr (some false))
   else
    if((!v6)||false)then
     some (.inr (some false))
    else
     some (.inl (IntKind.i64.wrap (v3+1)))
  else
   some (.inr (some false))
 else
  some (.inr (iQ a0))
def YU(a0:Ai):Option (Bool):=
 Av (λs:Int=>OZ a0 s) 0
def jD(a0:List Ai):Option (Bool):=
 some (decide ((a0.length:Int)<=24))
def O1(a0:List Ai)(v1:Int):Option ((Int) ⊕ Option (Bool)):=
 if(decide (v1<(a0.length:Int)))then
  (An a0 v1).bind λy2=>
  (YU y2).bind λv3=>
  if(decide (v1>0))then
   if v3 then
    (An a0 (IntKind.i64.wrap (v1-1))).bind λy4=>
    if(!Op.bytesLess y4.ah y2.ah)then
     some (.inr (some false))
    else
     some (.inl (IntKind.i64.wrap (v1+1)))
   else
    some (.inr (some false))
  else
   if((!v3)||false)then
    some (.inr (some false))
   else
    some (.inl (IntKind.i64.wrap (v1+1)))
 else
  some (.inr (jD a0))
def Va(a0:List Ai):Option (Bool):=
 Av (λs:Int=>O1 a0 s) 0
def XY(a0:Ax):Option (Bu):=
 some (⟨1,a0.al,a0.af,a0.bq,a0.ak,a0.ab,false⟩:Bu)
def zip(a0:List (Ag)):Option (Bool):=
 some (decide ((a0.length:Int)<=8))
def Q9(a0:List (Ag))(v1:Int):Option ((Int) ⊕ Option (Bool)):=
 if(decide (v1<(a0.length:Int)))then
  (An a0 v1).bind λy2=>
  (Pd y2).bind λv3=>
  if(decide (v1>0))then
   if v3 then
    (An a0 (IntKind.i64.wrap (v1-1))).bind λy4=>
    if(!Op.bytesLess y4 y2)then
     some (.inr (some false))
    else
     some (.inl (IntKind.i64.wrap (v1+1)))
   else
    some (.inr (some false))
  else
   if((!v3)||false)then
    some (.inr (some false))
   else
    some (.inl (IntKind.i64.wrap (v1+1)))
 else
  some (.inr (zip a0))
def YZ(a0:List (Ag)):Option (Bool):=
 Av (λs:Int=>Q9 a0 s) 0
def gW(a0:List Am):Option (Bool):=
 some (decide ((a0.length:Int)<=24))
def iA(a0:List Am)(v1:Int):Option ((Int) ⊕ Option (Bool)):=
 if(decide (v1<(a0.length:Int)))then
  (An a0 v1).bind λy2=>
  (UW y2.ah y2.bg y2.bf).bind λv3=>
  if(decide (v1>0))then
   if v3 then
    (An a0 (IntKind.i64.wrap (v1-1))).bind λy4=>
    if(!Op.bytesLess y4.ah y2.ah)then
     some (.inr (some false))
    else
     some (.inl (IntKind.i64.wrap (v1+1)))
   else
    some (.inr (some false))
  else
   if((!v3)||false)then
    some (.inr (some false))
   else
    some (.inl (IntKind.i64.wrap (v1+1)))
 else
  some (.inr (gW a0))
def Yj(a0:List Am):Option (Bool):=
 Av (λs:Int=>iA a0 s) 0
def Ys(a0:Bu)(v7:Bool):Option (Bool):=
 if v7 then
  (IG a0.al 1 60).bind λv8=>
  if a0.bk then
   if v8 then
    (M9 a0.af).bind λv9=>
    some (v9||false)
   else
    some false
  else
   some (v8&&(a0.af==0))
 else
  if(a0.bb==4)then
   if(a0.al==0)then
    (M9 a0.af).bind λv10=>
    some (v10&&(!a0.bk))
   else
    some false
  else
   some false
def LI(a0:Bu):Option (Bool):=
 if((a0.bb !=1)&&((a0.bq !=0)||(decide ((IntKind.i64.wrap ((a0.ak.length:Int)+(a0.ab.length:Int)))>0))))then
  some false
 else
  if(a0.bb==1)then
   (IG a0.al 1 60).bind λv1=>
   if v1 then
    (M9 a0.af).bind λv2=>
    if v2 then
     (IG a0.bq 0 3).bind λv3=>
     if v3 then
      (YZ a0.ak).bind λv4=>
      if v4 then
       (Yj a0.ab).bind λv5=>
       if v5 then
        (IG (a0.ab.length:Int) 0 8).bind λv6=>
        some ((v6&&(decide ((IntKind.i64.wrap ((a0.ak.length:Int)+(a0.ab.length:Int)))>0)))&&(!a0.bk))
       else
        some false
      else
       some false
     else
      some false
    else
     some false
   else
    some false
  else
   if(a0.bb==2)then
    Ys a0 (a0.bb==2)
   else
    Ys a0 (a0.bb==3)
def gM(a0:List Am)(a1:Ag)(v1:Int):Option ((Int) ⊕ Option (Bool)):=
 if(decide (v1<(a0.length:Int)))then
  (An a0 v1).bind λy2=>
  if(y2.ah==a1)then
   some (.inr (some true))
  else
   some (.inl (IntKind.i64.wrap (v1+1)))
 else
  some (.inr (some false))
def U4(a0:List Am)(a1:Ag):Option (Bool):=
 Av (λs:Int=>gM a0 a1 s) 0
def jB(a0:List (Ag))(a1:Ag)(v1:Int):Option ((Int) ⊕ Option (Bool)):=
 if(decide (v1<(a0.length:Int)))then
  (An a0 v1).bind λy2=>
  if(y2==a1)then
   some (.inr (some true))
  else
   some (.inl (IntKind.i64.wrap (v1+1)))
 else
  some (.inr (some false))
def Y1(a0:List (Ag))(a1:Ag):Option (Bool):=
 Av (λs:Int=>jB a0 a1 s) 0
def iB(a0:Ax)(a2:List Am)(v1:Int):Option ((Int) ⊕ Option (Bool)):=
 if(decide (v1<(a2.length:Int)))then
  (An a2 v1).bind λy2=>
  (U4 a0.ab y2.ah).bind λv3=>
  if v3 then
   some (.inr (some false))
  else
   (Y1 a0.ak y2.ah).bind λv4=>
   if v4 then
    some (.inr (some false))
   else
    some (.inl (IntKind.i64.wrap (v1+1)))
 else
  some (.inr (some true))
def X9(a0:Ax)(a2:List Am):Option (Bool):=
 Av (λs:Int=>iB a0 a2 s) 0
def gN(a0:Ax)(a1:List (Ag))(a2:List Am)(v5:Int):Option ((Int) ⊕ Option (Bool)):=
 if(decide (v5<(a1.length:Int)))then
  (An a1 v5).bind λy6=>
  (U4 a0.ab y6).bind λv7=>
  if v7 then
   some (.inr (some false))
  else
   some (.inl (IntKind.i64.wrap (v5+1)))
 else
  some (.inr (X9 a0 a2))
def RA(a0:Ax)(a1:List (Ag))(a2:List Am):Option (Bool):=
 Av (λs:Int=>gN a0 a1 a2 s) 0
def jK(a0:List Ai)(a1:Ag)(v1:Int):Option ((Int) ⊕ Option (Int)):=
 if(decide (v1<(a0.length:Int)))then
  (An a0 v1).bind λy2=>
  if(y2.ah==a1)then
   some (.inr (some v1))
  else
   some (.inl (IntKind.i64.wrap (v1+1)))
 else
  some (.inr (some (-1)))
def Vk(a0:List Ai)(a1:Ag):Option (Int):=
 Av (λs:Int=>jK a0 a1 s) 0
def O7(a0:List Ai)(a1:Ag):Option (Int):=
 (Vk a0 a1).bind λv1=>
 if(decide (v1<0))then
  some 0
 else
  (An a0 v1).bind λy2=>
  (An y2.aw (IntKind.i64.wrap ((y2.aw.length:Int)-1))).bind λy3=>
  some y3.af
def IF(a0:List (Ag)):Option (List (Ag)):=
 AL (RM ((([]:List (Ag)).length:Int)+((a0).length:Int)) 16)<|
 some a0
def Rg(a0:List (Ag))(a1:Ag)(v1:Int):Option (List (Ag)):=
 if(decide (v1>0))then
  (An a0 (IntKind.i64.wrap (v1-1))).bind λy2=>
  if(y2==a1)then
   some a0
  else
   AL (0<=v1/\v1<=(a0.length:Int)/\(a0.length:Int)<=(a0.length:Int))<|
   (IF (A3 a0 v1 (a0.length:Int))).bind λv3=>
   AL (0<=(0:Int)/\(0:Int)<=v1/\v1<=(a0.length:Int))<|
   (IF (A3 a0 0 v1)).bind λv4=>
   AL (RM (((v4).length:Int)+(([a1]:List (Ag)).length:Int)) 16)<|
   AL (RM ((((v4++ [a1])).length:Int)+((v3).length:Int)) 16)<|
   some ((v4++ [a1])++v3)
 else
  AL (0<=v1/\v1<=(a0.length:Int)/\(a0.length:Int)<=(a0.length:Int))<|
  (IF (A3 a0 v1 (a0.length:Int))).bind λv5=>
  AL (0<=(0:Int)/\(0:Int)<=v1/\v1<=(a0.length:Int))<|
  (IF (A3 a0 0 v1)).bind λv6=>
  AL (RM (((v6).length:Int)+(([a1]:List (Ag)).length:Int)) 16)<|
  AL (RM ((((v6++ [a1])).length:Int)+((v5).length:Int)) 16)<|
  some ((v6++ [a1])++v5)
def Ka(a0:List (Ag))(a1:Ag)(v7:Int):Option ((Int) ⊕ Option (List (Ag))):=
 if(decide (v7>0))then
  (An a0 (IntKind.i64.wrap (v7-1))).bind λy8=>
  if(!(Op.bytesLess y8 a1||y8==a1))then
   some (.inl (IntKind.i64.wrap (v7-1)))
  else
   some (.inr (Rg a0 a1 v7))
 else
  some (.inr (Rg a0 a1 v7))
def O4(a0:List (Ag))(a1:Ag):Option (List (Ag)):=
 Av (λs:Int=>Ka a0 a1 s) (a0.length:Int)
def X1(v3:List (Ag)):Option (Bool):=
 some (decide ((v3.length:Int)<=24))
def QK(a0:Aj)(v2:List Am)(v4:List (Ag))(v5:Int):Option ((List (Ag) × Int) ⊕ Option (Bool)):=
 if(decide (v5<(v2.length:Int)))then
  (An v2 v5).bind λy6=>
  (O4 v4 y6.ah).bind λv7=>
  (Vk a0.aj y6.ah).bind λv8=>
  if(decide (v8>=0))then
   (An a0.aj v8).bind λy9=>
   if(decide ((y9.aw.length:Int)>=16))then
    some (.inr (some false))
   else
    some (.inl (v7,(IntKind.i64.wrap (v5+1))))
  else
   some (.inl (v7,(IntKind.i64.wrap (v5+1))))
 else
  some (.inr (X1 v4))
def iG(a0:Aj)(v1:List (Ag))(v2:List Am):Option (Bool):=
 Av (λs:List (Ag) × Int=>QK a0 v2 s.1 s.2) (v1,0)
def Rv(a0:Aj)(v1:List (Ag))(v10:Int)(v11:List Am):Option ((Int × List Am) ⊕ Option (Bool)):=
 if(decide (v10<(a0.ae.length:Int)))then
  (An a0.ae v10).bind λy12=>
  AL (RM (((v11).length:Int)+((y12.ab).length:Int)) 40)<|
  some (.inl ((IntKind.i64.wrap (v10+1)),(v11++y12.ab)))
 else
  some (.inr (iG a0 v1 v11))
def iF(a0:Aj)(a1:List Am)(v1:List (Ag)):Option (Bool):=
 AL (RM ((([]:List Am).length:Int)+((a1).length:Int)) 40)<|
 Av (λs:Int × List Am=>Rv a0 v1 s.1 s.2) (0,a1)
def Rq(a0:Aj)(a1:List Am)(v13:List (Ag))(v14:Int):Option ((List (Ag) × Int) ⊕ Option (Bool)):=
 if(decide (v14<(a0.aj.length:Int)))then
  (An a0.aj v14).bind λy15=>
  (O4 v13 y15.ah).bind λv16=>
  some (.inl (v16,(IntKind.i64.wrap (v14+1))))
 else
  some (.inr (iF a0 a1 v13))
def UZ(a0:Aj)(a1:List Am):Option (Bool):=
 Av (λs:List (Ag) × Int=>Rq a0 a1 s.1 s.2) ([],0)
def US(a0:Aj):Option (Bool):=
 if(decide ((a0.ae.length:Int)<=12))then
  (UZ a0 ([]:List Am)).bind λv1=>
  some v1
 else
  some false
def UP(v2:Int):Option ((Int) ⊕ Option (Bool)):=
 some (.inl (IntKind.i64.wrap (v2+1)))
def J1(a0:Aj)(v2:Int)(y3:Ax)(v7:Int):Option ((Int) ⊕ Option ((Int) ⊕ Option (Bool))):=
 if(decide (v7<(y3.ab.length:Int)))then
  (An y3.ab v7).bind λy8=>
  (O7 a0.aj y8.ah).bind λv9=>
  if(decide (v9>=y3.af))then
   some (.inr (some (.inr (some false))))
  else
   some (.inl (IntKind.i64.wrap (v7+1)))
 else
  some (.inr (UP v2))
def KF(a0:Aj)(v2:Int)(y3:Ax):Option ((Int) ⊕ Option (Bool)):=
 Av (λs:Int=>J1 a0 v2 y3 s) 0
def Jb(a0:Aj)(v2:Int)(y3:Ax)(v10:Int):Option ((Int) ⊕ Option ((Int) ⊕ Option (Bool))):=
 if(decide (v10<((A3 a0.ae 0 v2).length:Int)))then
  (An (A3 a0.ae 0 v2) v10).bind λy11=>
  (RA y11 y3.ak y3.ab).bind λv12=>
  if(!v12)then
   some (.inr (some (.inr (some false))))
  else
   some (.inl (IntKind.i64.wrap (v10+1)))
 else
  some (.inr (KF a0 v2 y3))
def iI(v2:Int):Option ((Int) ⊕ Option (Bool)):=
 some (.inl (IntKind.i64.wrap (v2+1)))
def Rk(a0:Aj)(v2:Int)(y3:Ax)(v13:Int):Option ((Int) ⊕ Option ((Int) ⊕ Option (Bool))):=
 if(decide (v13<(y3.ab.length:Int)))then
  (An y3.ab v13).bind λy14=>
  (O7 a0.aj y14.ah).bind λv15=>
  if(decide (v15>=y3.af))then
   some (.inr (some (.inr (some false))))
  else
   some (.inl (IntKind.i64.wrap (v13+1)))
 else
  some (.inr (iI v2))
def Rl(a0:Aj)(v2:Int)(y3:Ax):Option ((Int) ⊕ Option (Bool)):=
 Av (λs:Int=>Rk a0 v2 y3 s) 0
def OT(a0:Aj)(v2:Int)(y3:Ax)(v16:Int):Option ((Int) ⊕ Option ((Int) ⊕ Option (Bool))):=
 if(decide (v16<((A3 a0.ae 0 v2).length:Int)))then
  (An (A3 a0.ae 0 v2) v16).bind λy17=>
  (RA y17 y3.ak y3.ab).bind λv18=>
  if(!v18)then
   some (.inr (some (.inr (some false))))
  else
   some (.inl (IntKind.i64.wrap (v16+1)))
 else
  some (.inr (Rl a0 v2 y3))
def J8(a0:Aj)(v2:Int):Option ((Int) ⊕ Option (Bool)):=
 if(decide (v2<(a0.ae.length:Int)))then
  (An a0.ae v2).bind λy3=>
  (XY y3).bind λv4=>
  (LI v4).bind λv5=>
  if(decide (v2>0))then
   if v5 then
    if(decide (y3.af>a0.aq))then
     some (.inr (some false))
    else
     (An a0.ae (IntKind.i64.wrap (v2-1))).bind λy6=>
     if(decide (y6.al>=y3.al))then
      some (.inr (some false))
     else
      AL (0<=(0:Int)/\(0:Int)<=v2/\v2<=(a0.ae.length:Int))<|
      Av (λs:Int=>Jb a0 v2 y3 s) 0
   else
    some (.inr (some false))
  else
   if(((!v5)||(decide (y3.af>a0.aq)))||false)then
    some (.inr (some false))
   else
    AL (0<=(0:Int)/\(0:Int)<=v2/\v2<=(a0.ae.length:Int))<|
    Av (λs:Int=>OT a0 v2 y3 s) 0
 else
  some (.inr (US a0))
def Ry(a0:Aj):Option (Bool):=
 Av (λs:Int=>J8 a0 s) 0
def gT(a0:Aj)(a1 v1:Int):Option ((Int) ⊕ Option (Ax × Bool)):=
 if(decide (v1<(a0.ae.length:Int)))then
  (An a0.ae v1).bind λy2=>
  if(y2.al==a1)then
   some (.inr (some (y2,true)))
  else
   some (.inl (IntKind.i64.wrap (v1+1)))
 else
  some (.inr (some ((⟨0,0,0,[],[]⟩:Ax),false)))
def J9(a0:Aj)(a1:Int):Option (Ax × Bool):=
 Av (λs:Int=>gT a0 a1 s) 0
def J2(a0:Aj)(v4:Int):Option ((Int) ⊕ Option (Bool)):=
 if(decide (v4<(a0.ao.length:Int)))then
  (An a0.ao v4).bind λy5=>
  (IG y5.al 1 60).bind λv6=>
  if(decide (v4>0))then
   if v6 then
    (An a0.ao (IntKind.i64.wrap (v4-1))).bind λy7=>
    if y5.bk then
     if(decide (y7.al>=y5.al))then
      some (.inr (some false))
     else
      (IG y5.af 1 a0.aq).bind λv8=>
      if((!v8)||false)then
       some (.inr (some false))
      else
       (J9 a0 y5.al).bind λv9=>
       if v9.2 then
        some (.inr (some false))
       else
        some (.inl (IntKind.i64.wrap (v4+1)))
    else
     if(((decide (y7.al>=y5.al))||false)||(y5.af !=0))then
      some (.inr (some false))
     else
      (J9 a0 y5.al).bind λv10=>
      if v10.2 then
       some (.inr (some false))
      else
       some (.inl (IntKind.i64.wrap (v4+1)))
   else
    some (.inr (some false))
  else
   if y5.bk then
    if v6 then
     (IG y5.af 1 a0.aq).bind λv11=>
     if((!v11)||false)then
      some (.inr (some false))
     else
      (J9 a0 y5.al).bind λv12=>
      if v12.2 then
       some (.inr (some false))
      else
       some (.inl (IntKind.i64.wrap (v4+1)))
    else
     some (.inr (some false))
   else
    if((((!v6)||false)||false)||(y5.af !=0))then
     some (.inr (some false))
    else
     (J9 a0 y5.al).bind λv13=>
     if v13.2 then
      some (.inr (some false))
     else
      some (.inl (IntKind.i64.wrap (v4+1)))
 else
  some (.inr (some true))
def Rr(a0:Aj):Option (Bool):=
 Av (λs:Int=>J2 a0 s) 0
def J3(a0:Aj)(v14:Int):Option ((Int) ⊕ Option (Bool)):=
 if(decide (v14<(a0.aj.length:Int)))then
  (An a0.aj v14).bind λy15=>
  (O7 a0.aj y15.ah).bind λv16=>
  if(decide (v16>a0.aq))then
   some (.inr (some false))
  else
   some (.inl (IntKind.i64.wrap (v14+1)))
 else
  some (.inr (Rr a0))
def LJ(a0:Aj):Option (Bool):=
 (Pa a0.aq).bind λv1=>
 if v1 then
  (Va a0.aj).bind λv2=>
  if v2 then
   (Ry a0).bind λv3=>
   if((!v3)||(decide ((a0.ao.length:Int)>60)))then
    some false
   else
    Av (λs:Int=>J3 a0 s) 0
  else
   some false
 else
  some false
def iH(a0:List (Ag)):Option (Bool):=
 some (decide ((a0.length:Int)<4))
def Rm(a0:List (Ag))(v1:Int):Option ((Int) ⊕ Option (Bool)):=
 if(decide (v1<(a0.length:Int)))then
  (An a0 v1).bind λy2=>
  (Pd y2).bind λv3=>
  if(decide (v1>0))then
   if v3 then
    (An a0 (IntKind.i64.wrap (v1-1))).bind λy4=>
    if(!Op.bytesLess y4 y2)then
     some (.inr (some false))
    else
     some (.inl (IntKind.i64.wrap (v1+1)))
   else
    some (.inr (some false))
  else
   if((!v3)||false)then
    some (.inr (some false))
   else
    some (.inl (IntKind.i64.wrap (v1+1)))
 else
  some (.inr (iH a0))
def YC(a0:List (Ag)):Option (Bool):=
 Av (λs:Int=>Rm a0 s) 0
def Yp(a0:AM):Option (Bool):=
 (LI (⟨1,a0.al,1,0,a0.ak,a0.ab,false⟩:Bu)).bind λv1=>
 some v1
def gQ(a0:List AM):Option (Bool):=
 some (decide ((a0.length:Int)<=8))
def XN(v1:Int):Option ((Int) ⊕ Option (Bool)):=
 some (.inl (IntKind.i64.wrap (v1+1)))
def Q2(a0:List AM)(v1:Int)(y2:AM)(v4:Int):Option ((Int) ⊕ Option ((Int) ⊕ Option (Bool))):=
 if(decide (v4<((A3 a0 0 v1).length:Int)))then
  (An (A3 a0 0 v1) v4).bind λy5=>
  if(y2.al==y5.al)then
   some (.inr (some (.inr (some false))))
  else
   some (.inl (IntKind.i64.wrap (v4+1)))
 else
  some (.inr (XN v1))
def QX(a0:List AM)(v1:Int):Option ((Int) ⊕ Option (Bool)):=
 if(decide (v1<(a0.length:Int)))then
  (An a0 v1).bind λy2=>
  (Yp y2).bind λv3=>
  if(!v3)then
   some (.inr (some false))
  else
   AL (0<=(0:Int)/\(0:Int)<=v1/\v1<=(a0.length:Int))<|
   Av (λs:Int=>Q2 a0 v1 y2 s) 0
 else
  some (.inr (gQ a0))
def Yr(a0:List AM):Option (Bool):=
 Av (λs:Int=>QX a0 s) 0
def X0(a0:Az):Option (Bool):=
 (YC a0.az).bind λv1=>
 if v1 then
  if((a0.ax.length:Int)==(IntKind.i64.wrap ((a0.az.length:Int)+1)))then
   (Yr a0.ar).bind λv2=>
   some v2
  else
   some false
 else
  some false
def Ru(a0:Az)(v3:Int):Option ((Int) ⊕ Option (Bool)):=
 if(decide (v3<(a0.ax.length:Int)))then
  (An a0.ax v3).bind λy4=>
  (LJ y4).bind λv5=>
  if(!v5)then
   some (.inr (some false))
  else
   some (.inl (IntKind.i64.wrap (v3+1)))
 else
  some (.inr (X0 a0))
def Yy(a0:Az):Option (Bool):=
 Av (λs:Int=>Ru a0 s) 0
def RE(a0:Az)(a1 v1:Int):Option ((Int) ⊕ Option (Int)):=
 if(decide (v1<(a0.ar.length:Int)))then
  (An a0.ar v1).bind λy2=>
  if(y2.al==a1)then
   some (.inr (some v1))
  else
   some (.inl (IntKind.i64.wrap (v1+1)))
 else
  some (.inr (some (-1)))
def Y9(a0:Az)(a1:Int):Option (Int):=
 Av (λs:Int=>RE a0 a1 s) 0
def QT(a1:List Am)(v2:List (Ag))(v3:Int):Option ((List (Ag) × Int) ⊕ Option (List (Ag))):=
 if(decide (v3<(a1.length:Int)))then
  (An a1 v3).bind λy4=>
  (O4 v2 y4.ah).bind λv5=>
  some (.inl (v5,(IntKind.i64.wrap (v3+1))))
 else
  some (.inr (some v2))
def gL(a1:List Am)(v1:List (Ag)):Option (List (Ag)):=
 Av (λs:List (Ag) × Int=>QT a1 s.1 s.2) (v1,0)
def QU(a0:List (Ag))(a1:List Am)(v6:List (Ag))(v7:Int):Option ((List (Ag) × Int) ⊕ Option (List (Ag))):=
 if(decide (v7<(a0.length:Int)))then
  (An a0 v7).bind λy8=>
  (O4 v6 y8).bind λv9=>
  some (.inl (v9,(IntKind.i64.wrap (v7+1))))
 else
  some (.inr (gL a1 v6))
def YQ(a0:List (Ag))(a1:List Am):Option (List (Ag)):=
 Av (λs:List (Ag) × Int=>QU a0 a1 s.1 s.2) ([],0)
def Rn(a0:List (Ag))(a1:Ag)(v1:Int):Option ((Int) ⊕ Option (Int)):=
 if(decide (v1<(a0.length:Int)))then
  (An a0 v1).bind λy2=>
  if(Op.bytesLess y2 a1||y2==a1)then
   some (.inl (IntKind.i64.wrap (v1+1)))
  else
   some (.inr (some v1))
 else
  some (.inr (some v1))
def UY(a0:List (Ag))(a1:Ag):Option (Int):=
 Av (λs:Int=>Rn a0 a1 s) 0
def Yg(a0:List Int)(a1 v1:Int):Option (List Int):=
 if(decide (v1<(a0.length:Int)))then
  (An a0 v1).bind λy2=>
  if(y2==a1)then
   some a0
  else
   AL (0<=(0:Int)/\(0:Int)<=v1/\v1<=(a0.length:Int))<|
   AL (RM ((([]:List Int).length:Int)+(((A3 a0 0 v1)).length:Int)) 8)<|
   AL (RM ((((A3 a0 0 v1)).length:Int)+(([a1]:List Int).length:Int)) 8)<|
   AL (0<=v1/\v1<=(a0.length:Int)/\(a0.length:Int)<=(a0.length:Int))<|
   AL (RM (((((A3 a0 0 v1)++ [a1])).length:Int)+(((A3 a0 v1 (a0.length:Int))).length:Int)) 8)<|
   some (((A3 a0 0 v1)++ [a1])++(A3 a0 v1 (a0.length:Int)))
 else
  AL (0<=(0:Int)/\(0:Int)<=v1/\v1<=(a0.length:Int))<|
  AL (RM ((([]:List Int).length:Int)+(((A3 a0 0 v1)).length:Int)) 8)<|
  AL (RM ((((A3 a0 0 v1)).length:Int)+(([a1]:List Int).length:Int)) 8)<|
  AL (0<=v1/\v1<=(a0.length:Int)/\(a0.length:Int)<=(a0.length:Int))<|
  AL (RM (((((A3 a0 0 v1)++ [a1])).length:Int)+(((A3 a0 v1 (a0.length:Int))).length:Int)) 8)<|
  some (((A3 a0 0 v1)++ [a1])++(A3 a0 v1 (a0.length:Int)))
def RB(a0:List Int)(a1 v3:Int):Option ((Int) ⊕ Option (List Int)):=
 if(decide (v3<(a0.length:Int)))then
  (An a0 v3).bind λy4=>
  if(decide (y4<a1))then
   some (.inl (IntKind.i64.wrap (v3+1)))
  else
   some (.inr (Yg a0 a1 v3))
 else
  some (.inr (Yg a0 a1 v3))
def kS(a0:List Int)(a1:Int):Option (List Int):=
 Av (λs:Int=>RB a0 a1 s) 0
def QR(a0:List (Ag))(a1:List (Ag))(v1:List Int)(v2:Int):Option ((List Int × Int) ⊕ Option (List Int)):=
 if(decide (v2<(a1.length:Int)))then
  (An a1 v2).bind λy3=>
  (UY a0 y3).bind λv4=>
  (kS v1 v4).bind λv5=>
  some (.inl (v5,(IntKind.i64.wrap (v2+1))))
 else
  some (.inr (some v1))
def jU(a0:List (Ag))(a1:List (Ag)):Option (List Int):=
 Av (λs:List Int × Int=>QR a0 a1 s.1 s.2) ([],0)
def Ve(a0:List (Ag))(a1:AM):Option (List Int):=
 (YQ a1.ak a1.ab).bind λv1=>
 (jU a0 v1).bind λv2=>
 some v2
def gU(a0:Aj)(a1 v1:Int):Option ((Int) ⊕ Option (Bh × Bool)):=
 if(decide (v1<(a0.ao.length:Int)))then
  (An a0.ao v1).bind λy2=>
  if(y2.al==a1)then
   some (.inr (some (y2,true)))
  else
   some (.inl (IntKind.i64.wrap (v1+1)))
 else
  some (.inr (some ((⟨0,false,0⟩:Bh),false)))
def UM(a0:Aj)(a1:Int):Option (Bh × Bool):=
 Av (λs:Int=>gU a0 a1 s) 0
def RG(a0:List Int)(a1 v1:Int):Option ((Int) ⊕ Option (Bool)):=
 if(decide (v1<(a0.length:Int)))then
  (An a0 v1).bind λy2=>
  if(y2==a1)then
   some (.inr (some true))
  else
   some (.inl (IntKind.i64.wrap (v1+1)))
 else
  some (.inr (some false))
def Vi(a0:List Int)(a1:Int):Option (Bool):=
 Av (λs:Int=>RG a0 a1 s) 0
def J7(a0 a1:Int):Option (Int):=
 if(decide (a0>a1))then
  some a0
 else
  some a1
def X7(a0:Aj)(a1:Int):Option (Int × Bool):=
 (LJ a0).bind λv1=>
 if v1 then
  (Pa a1).bind λv2=>
  if v2 then
   (J7 a0.aq a1).bind λv3=>
   if(v3==100000)then
    some (0,false)
   else
    (J7 a0.aq a1).bind λv4=>
    some ((IntKind.i64.wrap (v4+1)),true)
  else
   some (0,false)
 else
  some (0,false)
def QQ(a0:List (Ag))(a2:List Am)(a3:Int)(v1:List (Ag))(v2:List Am)(v3:Int):Option ((List Am × Int) ⊕ Option (List (Ag) × List Am)):=
 if(decide (v3<(a2.length:Int)))then
  (An a2 v3).bind λy4=>
  (UY a0 y4.ah).bind λv5=>
  if(v5==a3)then
   AL (RM (((v2).length:Int)+(([y4]:List Am).length:Int)) 40)<|
   some (.inl ((v2++ [y4]),(IntKind.i64.wrap (v3+1))))
  else
   some (.inl (v2,(IntKind.i64.wrap (v3+1))))
 else
  some (.inr (some (v1,v2)))
def gV(a0:List (Ag))(a2:List Am)(a3:Int)(v1:List (Ag)):Option (List (Ag) × List Am):=
 Av (λs:List Am × Int=>QQ a0 a2 a3 v1 s.1 s.2) ([],0)
def QL(a0:List (Ag))(a1:List (Ag))(a2:List Am)(a3:Int)(v6:List (Ag))(v7:Int):Option ((List (Ag) × Int) ⊕ Option (List (Ag) × List Am)):=
 if(decide (v7<(a1.length:Int)))then
  (An a1 v7).bind λy8=>
  (UY a0 y8).bind λv9=>
  if(v9==a3)then
   AL (RM (((v6).length:Int)+(([y8]:List (Ag)).length:Int)) 16)<|
   some (.inl ((v6++ [y8]),(IntKind.i64.wrap (v7+1))))
  else
   some (.inl (v6,(IntKind.i64.wrap (v7+1))))
 else
  some (.inr (gV a0 a2 a3 v6))
def jS(a0:List (Ag))(a1:List (Ag))(a2:List Am)(a3:Int):Option (List (Ag) × List Am):=
 Av (λs:List (Ag) × Int=>QL a0 a1 a2 a3 s.1 s.2) ([],0)
def UK(a1:AM)(a2:Ea)(y2 v9:Int):Option (Bu × Int × Bool):=
 if(a2.bm==0)then
  (Pa a2.af).bind λv10=>
  some ((⟨2,a1.al,v9,0,[],[],true⟩:Bu),y2,v10)
 else
  some ((⟨2,a1.al,v9,0,[],[],true⟩:Bu),y2,false)
def O0(a0:Az)(a1:AM)(a2:Ea)(v1:List Int)(y2 v11 v12:Int):Option ((Int × Int) ⊕ Option (Bu × Int × Bool)):=
 if(decide (v12<(v1.length:Int)))then
  (An v1 v12).bind λy13=>
  (An a0.ax y13).bind λy14=>
  (J9 y14 a1.al).bind λv15=>
  if(!v15.2)then
   some (.inr (some ((⟨0,0,0,0,[],[],false⟩:Bu),0,false)))
  else
   (J7 v11 v15.1.af).bind λv16=>
   some (.inl (v16,(IntKind.i64.wrap (v12+1))))
 else
  some (.inr (UK a1 a2 y2 v11))
def Y6(a0:Az)(a1:AM)(a2:Ea):Option (Bu × Int × Bool):=
 (Ve a0.az a1).bind λv1=>
 (An v1 0).bind λy2=>
 (An a0.ax y2).bind λy3=>
 (UM y3 a1.al).bind λv4=>
 if(a2.bb==1)then
  if v4.2 then
   some ((⟨0,0,0,0,[],[],false⟩:Bu),0,false)
  else
   if(a2.af !=0)then
    some ((⟨0,0,0,0,[],[],false⟩:Bu),0,false)
   else
    (Vi v1 a2.bm).bind λv5=>
    if(!v5)then
     some ((⟨0,0,0,0,[],[],false⟩:Bu),0,false)
    else
     (An a0.ax a2.bm).bind λy6=>
     (X7 y6 0).bind λv7=>
     (jS a0.az a1.ak a1.ab a2.bm).bind λv8=>
     some ((⟨1,a1.al,v7.1,y2,v8.1,v8.2,false⟩:Bu),a2.bm,v7.2)
 else
  if(a2.bb==2)then
   Av (λs:Int × Int=>O0 a0 a1 a2 v1 y2 s.1 s.2) (a2.af,0)
  else
   if(a2.bb==3)then
    some ((⟨2,a1.al,0,0,[],[],false⟩:Bu),y2,((a2.bm==0)&&(a2.af==0)))
   else
    if(a2.bb==4)then
     if v4.2 then
      if(a2.af==0)then
       if(a2.bm !=y2)then
        (Vi v1 a2.bm).bind λv17=>
        some ((⟨3,a1.al,v4.1.af,0,[],[],v4.1.bk⟩:Bu),a2.bm,v17)
       else
        some ((⟨3,a1.al,v4.1.af,0,[],[],v4.1.bk⟩:Bu),a2.bm,false)
      else
       some ((⟨3,a1.al,v4.1.af,0,[],[],v4.1.bk⟩:Bu),a2.bm,false)
     else
      some ((⟨3,a1.al,v4.1.af,0,[],[],v4.1.bk⟩:Bu),a2.bm,false)
    else
     some ((⟨3,a1.al,v4.1.af,0,[],[],v4.1.bk⟩:Bu),a2.bm,false)
def Rz(a0 v1:List Ai)(v2:Int):Option ((List Ai × Int) ⊕ Option (List Ai)):=
 if(decide (v2<(a0.length:Int)))then
  (An a0 v2).bind λy3=>
  AL (RM ((([]:List BE).length:Int)+((y3.aw).length:Int)) 32)<|
  AL (RM (((v1).length:Int)+(([y3]:List Ai).length:Int)) 40)<|
  some (.inl ((v1++ [y3]),(IntKind.i64.wrap (v2+1))))
 else
  some (.inr (some v1))
def Vj(a0:List Ai):Option (List Ai):=
 Av (λs:List Ai × Int=>Rz a0 s.1 s.2) ([],0)
def X2(a0:Ax):Option (Ax):=
 (IF a0.ak).bind λv1=>
 AL (RM ((([]:List Am).length:Int)+((a0.ab).length:Int)) 40)<|
 some (⟨a0.al,a0.af,a0.bq,v1,a0.ab⟩:Ax)
def Ri(a0:Aj)(v1:List Ai)(v2:Int)(v3:List Ax):Option ((Int × List Ax) ⊕ Option (Aj)):=
 if(decide (v2<(a0.ae.length:Int)))then
  (An a0.ae v2).bind λy4=>
  (X2 y4).bind λv5=>
  AL (RM (((v3).length:Int)+(([v5]:List Ax).length:Int)) 72)<|
  some (.inl ((IntKind.i64.wrap (v2+1)),(v3++ [v5])))
 else
  some (.inr (some (⟨a0.aq,v1,v3,a0.ao⟩:Aj)))
def U9(a0:Aj):Option (Aj):=
 (Vj a0.aj).bind λv1=>
 AL (RM ((([]:List Bh).length:Int)+((a0.ao).length:Int)) 24)<|
 Av (λs:Int × List Ax=>Ri a0 v1 s.1 s.2) (0,[])
def XS(a0:List Ax)(a1:Ax)(v1:Int):Option (List Ax):=
 AL (0<=v1/\v1<=(a0.length:Int)/\(a0.length:Int)<=(a0.length:Int))<|
 AL (RM ((([]:List Ax).length:Int)+(((A3 a0 v1 (a0.length:Int))).length:Int)) 72)<|
 AL (0<=(0:Int)/\(0:Int)<=v1/\v1<=(a0.length:Int))<|
 AL (RM ((([]:List Ax).length:Int)+(((A3 a0 0 v1)).length:Int)) 72)<|
 AL (RM ((((A3 a0 0 v1)).length:Int)+(([a1]:List Ax).length:Int)) 72)<|
 AL (RM (((((A3 a0 0 v1)++ [a1])).length:Int)+(((A3 a0 v1 (a0.length:Int))).length:Int)) 72)<|
 some (((A3 a0 0 v1)++ [a1])++(A3 a0 v1 (a0.length:Int)))
def gF(a0:List Ax)(a1:Ax)(v2:Int):Option ((Int) ⊕ Option (List Ax)):=
 if(decide (v2>0))then
  (An a0 (IntKind.i64.wrap (v2-1))).bind λy3=>
  if(decide (y3.al>a1.al))then
   some (.inl (IntKind.i64.wrap (v2-1)))
  else
   some (.inr (XS a0 a1 v2))
 else
  some (.inr (XS a0 a1 v2))
def XW(a0:List Ax)(a1:Ax):Option (List Ax):=
 Av (λs:Int=>gF a0 a1 s) (a0.length:Int)
def XV(a0:Aj)(a2:List Am):Option (Bool):=
 if(decide ((a0.ae.length:Int)<12))then
  (UZ a0 a2).bind λv1=>
  some v1
 else
  some false
def gX(a0:Aj)(a1:List (Ag))(a2:List Am)(v2:Int):Option ((Int) ⊕ Option (Bool)):=
 if(decide (v2<(a0.ae.length:Int)))then
  (An a0.ae v2).bind λy3=>
  (RA y3 a1 a2).bind λv4=>
  if(!v4)then
   some (.inr (some false))
  else
   some (.inl (IntKind.i64.wrap (v2+1)))
 else
  some (.inr (XV a0 a2))
def YO(a0:Aj)(a1:List (Ag))(a2:List Am):Option (Bool):=
 Av (λs:Int=>gX a0 a1 a2 s) 0
def Yh(v2:List Ai):Option (List Ai × Bool):=
 (Va v2).bind λv3=>
 some (v2,v3)
def RH(a2 v4:Int)(v5:List Ai)(y6:Am)(v7:Int):Option ((Int × List Ai) ⊕ Option (List Ai × Bool)):=
 if(decide (v7>0))then
  (An v5 (IntKind.i64.wrap (v7-1))).bind λy8=>
  if(y8.ah==y6.ah)then
   (O7 v5 y6.ah).bind λv9=>
   if(decide (v9>=a2))then
    some (.inr (some ([],false)))
   else
    AL (RM (((y8.aw).length:Int)+(([(⟨a2,y6.bg,y6.bf⟩:BE)]:List BE).length:Int)) 32)<|
    some (.inl ((IntKind.i64.wrap (v4+1)),(v5.set ((IntKind.i64.wrap (v7-1))).toNat {y8 with aw:=(y8.aw++ [(⟨a2,y6.bg,y6.bf⟩:BE)])})))
  else
   AL (0<=v7/\v7<=(v5.length:Int)/\(v5.length:Int)<=(v5.length:Int))<|
   AL (0<=v7/\v7<=(v5.length:Int)/\(v5.length:Int)<=(v5.length:Int))<|
   AL (RM ((([]:List Ai).length:Int)+(((A3 v5 v7 (v5.length:Int))).length:Int)) 40)<|
   AL (0<=(0:Int)/\(0:Int)<=v7/\v7<=(v5.length:Int))<|
   AL (RM ((([]:List Ai).length:Int)+(((A3 v5 0 v7)).length:Int)) 40)<|
   AL (RM ((((A3 v5 0 v7)).length:Int)+(([(⟨y6.ah,[(⟨a2,y6.bg,y6.bf⟩:BE)]⟩:Ai)]:List Ai).length:Int)) 40)<|
   AL (RM (((((A3 v5 0 v7)++ [(⟨y6.ah,[(⟨a2,y6.bg,y6.bf⟩:BE)]⟩:Ai)])).length:Int)+(((A3 v5 v7 (v5.length:Int))).length:Int)) 40)<|
   some (.inl ((IntKind.i64.wrap (v4+1)),(((A3 v5 0 v7)++ [(⟨y6.ah,[(⟨a2,y6.bg,y6.bf⟩:BE)]⟩:Ai)])++(A3 v5 v7 (v5.length:Int)))))
 else
  AL (0<=v7/\v7<=(v5.length:Int)/\(v5.length:Int)<=(v5.length:Int))<|
  AL (0<=v7/\v7<=(v5.length:Int)/\(v5.length:Int)<=(v5.length:Int))<|
  AL (RM ((([]:List Ai).length:Int)+(((A3 v5 v7 (v5.length:Int))).length:Int)) 40)<|
  AL (0<=(0:Int)/\(0:Int)<=v7/\v7<=(v5.length:Int))<|
  AL (RM ((([]:List Ai).length:Int)+(((A3 v5 0 v7)).length:Int)) 40)<|
  AL (RM ((((A3 v5 0 v7)).length:Int)+(([(⟨y6.ah,[(⟨a2,y6.bg,y6.bf⟩:BE)]⟩:Ai)]:List Ai).length:Int)) 40)<|
  AL (RM (((((A3 v5 0 v7)++ [(⟨y6.ah,[(⟨a2,y6.bg,y6.bf⟩:BE)]⟩:Ai)])).length:Int)+(((A3 v5 v7 (v5.length:Int))).length:Int)) 40)<|
  some (.inl ((IntKind.i64.wrap (v4+1)),(((A3 v5 0 v7)++ [(⟨y6.ah,[(⟨a2,y6.bg,y6.bf⟩:BE)]⟩:Ai)])++(A3 v5 v7 (v5.length:Int)))))
def O3(a2 v4:Int)(v5:List Ai)(y6:Am)(v10:Int):Option ((Int) ⊕ Option ((Int × List Ai) ⊕ Option (List Ai × Bool))):=
 if(decide (v10>0))then
  (An v5 (IntKind.i64.wrap (v10-1))).bind λy11=>
  if(!(Op.bytesLess y11.ah y6.ah||y11.ah==y6.ah))then
   some (.inl (IntKind.i64.wrap (v10-1)))
  else
   some (.inr (RH a2 v4 v5 y6 v10))
 else
  some (.inr (RH a2 v4 v5 y6 v10))
def RF(a1:List Am)(a2 v4:Int)(v5:List Ai):Option ((Int × List Ai) ⊕ Option (List Ai × Bool)):=
 if(decide (v4<(a1.length:Int)))then
  (An a1 v4).bind λy6=>
  Av (λs:Int=>O3 a2 v4 v5 y6 s) (v5.length:Int)
 else
  some (.inr (Yh v5))
def Zf(a0:List Ai)(a1:List Am)(a2:Int):Option (List Ai × Bool):=
 (Vj a0).bind λv1=>
 Av (λs:Int × List Ai=>RF a1 a2 s.1 s.2) (0,v1)
def Rp(a0:List Ax)(a1:Int)(v1:List Ax)(v2:Int):Option ((List Ax × Int) ⊕ Option (List Ax)):=
 if(decide (v2<(a0.length:Int)))then
  (An a0 v2).bind λy3=>
  if(y3.al !=a1)then
   AL (RM (((v1).length:Int)+(([y3]:List Ax).length:Int)) 72)<|
   some (.inl ((v1++ [y3]),(IntKind.i64.wrap (v2+1))))
  else
   some (.inl (v1,(IntKind.i64.wrap (v2+1))))
 else
  some (.inr (some v1))
def U1(a0:List Ax)(a1:Int):Option (List Ax):=
 Av (λs:List Ax × Int=>Rp a0 a1 s.1 s.2) ([],0)
def XT(a0:List Bh)(a1:Bh)(v1:Int):Option (List Bh):=
 AL (0<=v1/\v1<=(a0.length:Int)/\(a0.length:Int)<=(a0.length:Int))<|
 AL (RM ((([]:List Bh).length:Int)+(((A3 a0 v1 (a0.length:Int))).length:Int)) 24)<|
 AL (0<=(0:Int)/\(0:Int)<=v1/\v1<=(a0.length:Int))<|
 AL (RM ((([]:List Bh).length:Int)+(((A3 a0 0 v1)).length:Int)) 24)<|
 AL (RM ((((A3 a0 0 v1)).length:Int)+(([a1]:List Bh).length:Int)) 24)<|
 AL (RM (((((A3 a0 0 v1)++ [a1])).length:Int)+(((A3 a0 v1 (a0.length:Int))).length:Int)) 24)<|
 some (((A3 a0 0 v1)++ [a1])++(A3 a0 v1 (a0.length:Int)))
def gG(a0:List Bh)(a1:Bh)(v2:Int):Option ((Int) ⊕ Option (List Bh)):=
 if(decide (v2>0))then
  (An a0 (IntKind.i64.wrap (v2-1))).bind λy3=>
  if(decide (y3.al>a1.al))then
   some (.inl (IntKind.i64.wrap (v2-1)))
  else
   some (.inr (XT a0 a1 v2))
 else
  some (.inr (XT a0 a1 v2))
def UT(a0:List Bh)(a1:Bh):Option (List Bh):=
 Av (λs:Int=>gG a0 a1 s) (a0.length:Int)
def Yc(a0:Aj)(a1:Bu):Option (Aj × Bool):=
 (U9 a0).bind λv1=>
 (J9 a0 a1.al).bind λv2=>
 (UM a0 a1.al).bind λv3=>
 if(a1.bb==4)then
  some ((⟨a1.af,v1.aj,v1.ae,v1.ao⟩:Aj),(decide (a1.af>a0.aq)))
 else
  if v3.2 then
   some (v1,false)
  else
   if(a1.bb==1)then
    (IF a1.ak).bind λv4=>
    AL (RM ((([]:List Am).length:Int)+((a1.ab).length:Int)) 40)<|
    (XW v1.ae (⟨a1.al,a1.af,a1.bq,v4,a1.ab⟩:Ax)).bind λv5=>
    if v2.2 then
     some ((⟨a1.af,v1.aj,v5,v1.ao⟩:Aj),false)
    else
     if(decide (a1.af>a0.aq))then
      (YO a0 a1.ak a1.ab).bind λv6=>
      some ((⟨a1.af,v1.aj,v5,v1.ao⟩:Aj),v6)
     else
      some ((⟨a1.af,v1.aj,v5,v1.ao⟩:Aj),false)
   else
    if a1.bk then
     if((!v2.2)||(decide (v2.1.af>a1.af)))then
      some (v1,false)
     else
      (Zf a0.aj v2.1.ab a1.af).bind λv7=>
      if(!v7.2)then
       some (v1,false)
      else
       (J7 a0.aq a1.af).bind λv8=>
       (U1 v1.ae a1.al).bind λv9=>
       (UT v1.ao (⟨a1.al,a1.bk,a1.af⟩:Bh)).bind λv10=>
       some ((⟨v8,v7.1,v9,v10⟩:Aj),true)
    else
     (U1 v1.ae a1.al).bind λv11=>
     (UT v1.ao (⟨a1.al,a1.bk,a1.af⟩:Bh)).bind λv12=>
     some ((⟨v1.aq,v1.aj,v11,v12⟩:Aj),true)
def Yi(a0:Aj)(a1:Bu):Option (Aj × Bool):=
 (LJ a0).bind λv1=>
 if v1 then
  (LI a1).bind λv2=>
  if(!v2)then
   some ((⟨0,[],[],[]⟩:Aj),false)
  else
   (Yc a0 a1).bind λv3=>
   if(!v3.2)then
    some ((⟨0,[],[],[]⟩:Aj),false)
   else
    some (v3.1,true)
 else
  some ((⟨0,[],[],[]⟩:Aj),false)
def Ro(a0 v1:List AM)(v2:Int):Option ((List AM × Int) ⊕ Option (List AM)):=
 if(decide (v2<(a0.length:Int)))then
  (An a0 v2).bind λy3=>
  (IF y3.ak).bind λv4=>
  AL (RM ((([]:List Am).length:Int)+((y3.ab).length:Int)) 40)<|
  AL (RM (((v1).length:Int)+(([(⟨y3.al,v4,y3.ab⟩:AM)]:List AM).length:Int)) 56)<|
  some (.inl ((v1++ [(⟨y3.al,v4,y3.ab⟩:AM)]),(IntKind.i64.wrap (v2+1))))
 else
  some (.inr (some v1))
def jO(a0:List AM):Option (List AM):=
 Av (λs:List AM × Int=>Ro a0 s.1 s.2) ([],0)
def Rh(a0:Az)(v1:List (Ag))(v2:List AM)(v3:Int)(v4:List Aj):Option ((Int × List Aj) ⊕ Option (Az)):=
 if(decide (v3<(a0.ax.length:Int)))then
  (An a0.ax v3).bind λy5=>
  (U9 y5).bind λv6=>
  AL (RM (((v4).length:Int)+(([v6]:List Aj).length:Int)) 80)<|
  some (.inl ((IntKind.i64.wrap (v3+1)),(v4++ [v6])))
 else
  some (.inr (some (⟨v1,v4,v2⟩:Az)))
def Y3(a0:Az):Option (Az):=
 (IF a0.az).bind λv1=>
 (jO a0.ar).bind λv2=>
 Av (λs:Int × List Aj=>Rh a0 v1 v2 s.1 s.2) (0,[])
def YG(a0:Az)(a1:Ea):Option (Az × Bool):=
 (Y9 a0 a1.al).bind λv1=>
 if(decide (v1<0))then
  some ((⟨[],[],[]⟩:Az),false)
 else
  (An a0.ar v1).bind λy2=>
  (Y6 a0 y2 a1).bind λv3=>
  if(!v3.2.2)then
   some ((⟨[],[],[]⟩:Az),false)
  else
   (An a0.ax v3.2.1).bind λy4=>
   (Yi y4 v3.1).bind λv5=>
   if(!v5.2)then
    some ((⟨[],[],[]⟩:Az),false)
   else
    (Y3 a0).bind λv6=>
    (An v6.ax v3.2.1).bind λy7=>
    some ((⟨v6.az,(v6.ax.set (v3.2.1).toNat v5.1),v6.ar⟩:Az),true)
def Yk(a0:Az)(a1:Ea):Option (Az × Bool):=
 (Yy a0).bind λv1=>
 if(!v1)then
  some ((⟨[],[],[]⟩:Az),false)
 else
  (YG a0 a1).bind λv2=>
  some (v2.1,v2.2)
def LH(a0 a1 a2:Int):Option (Bool):=
 some ((decide (a0>=a1))&&(decide (a0<=a2)))
def gI(a0:Int):Option (Bool):=
 some (((decide (a0>=97))&&(decide (a0<=122)))||((decide (a0>=48))&&(decide (a0<=57))))
def gS(a0:Ag)(a1:Int):Option (Int):=
 (Xw a0 a1).bind λv1=>
 some v1
def gK(a0 a1:Ag)(v1:Int):Option ((Int) ⊕ Option (Bool)):=
 if(decide (v1<(a0.length:Int)))then
  (An a0 v1).bind λy2=>
  (gI (y2.toNat:Int)).bind λv3=>
  if v3 then
   some (.inl (IntKind.i64.wrap (v1+1)))
  else
   (gS a1 (y2.toNat:Int)).bind λv4=>
   if(decide (v4<0))then
    some (.inr (some false))
   else
    some (.inl (IntKind.i64.wrap (v1+1)))
 else
  some (.inr (some true))
def U5(a0 a1:Ag):Option (Bool):=
 Av (λs:Int=>gK a0 a1 s) 0
def YH(a0:Ag):Option (Bool):=
 (LH (a0.length:Int) 1 12).bind λv1=>
 if v1 then
  (U5 a0 ([46,47]:Ag)).bind λv2=>
  some v2
 else
  some false
def gR(a0:List (Ag))(v1:Int):Option ((Int) ⊕ Option (Bool)):=
 if(decide (v1<(a0.length:Int)))then
  (An a0 v1).bind λy2=>
  (YH y2).bind λv3=>
  if(decide (v1>0))then
   if v3 then
    (An a0 (IntKind.i64.wrap (v1-1))).bind λy4=>
    if(Op.bytesLess y2 y4||y2==y4)then
     some (.inr (some false))
    else
     some (.inl (IntKind.i64.wrap (v1+1)))
   else
    some (.inr (some false))
  else
   if((!v3)||false)then
    some (.inr (some false))
   else
    some (.inl (IntKind.i64.wrap (v1+1)))
 else
  some (.inr (some true))
def M4(a0:List (Ag)):Option (Bool):=
 Av (λs:Int=>gR a0 s) 0
def Yq(a0:List (Ag)):Option (Bool):=
 if(decide ((a0.length:Int)<4))then
  (M4 a0).bind λv1=>
  some v1
 else
  some false
def RN(a0:Int):Option (Bool):=
 (LH a0 0 100000).bind λv1=>
 some v1
def M8(a0:Int):Option (Bool):=
 (LH a0 1 100000).bind λv1=>
 some v1
def YF(a0:Ag):Option (Bool):=
 if(decide ((a0.length:Int)<=24))then
  (U5 a0 ([46,45,44,95]:Ag)).bind λv1=>
  some v1
 else
  some false
def U2(a0:Ag)(a1:Bool):Option (Bool):=
 (YF a0).bind λv1=>
 some (v1&&(!(a1&&(a0 !=([]:Ag)))))
def iR(a0:Ai):Option (Bool):=
 (LH (a0.aw.length:Int) 1 16).bind λv1=>
 some v1
def OX(a0:Ai)(v2:Int):Option ((Int) ⊕ Option (Bool)):=
 if(decide (v2<(a0.aw.length:Int)))then
  (An a0.aw v2).bind λy3=>
  (M8 y3.af).bind λv4=>
  if v4 then
   (U2 y3.bg y3.bf).bind λv5=>
   if(decide (v2>0))then
    if v5 then
     (An a0.aw (IntKind.i64.wrap (v2-1))).bind λy6=>
     if(decide (y3.af<=y6.af))then
      some (.inr (some false))
     else
      some (.inl (IntKind.i64.wrap (v2+1)))
    else
     some (.inr (some false))
   else
    if((!v5)||false)then
     some (.inr (some false))
    else
     some (.inl (IntKind.i64.wrap (v2+1)))
  else
   some (.inr (some false))
 else
  some (.inr (iR a0))
def YV(a0:Ai):Option (Bool):=
 Av (λs:Int=>OX a0 s) 0
def XP(a0:List Ai)(v1:List (Ag)):Option (Bool):=
 if(decide ((a0.length:Int)<=24))then
  (M4 v1).bind λv2=>
  some v2
 else
  some false
def UI(a0:List Ai)(v3:Int)(v4:List (Ag)):Option ((Int × List (Ag)) ⊕ Option (Bool)):=
 if(decide (v3<(a0.length:Int)))then
  (An a0 v3).bind λy5=>
  (YV y5).bind λv6=>
  if(!v6)then
   some (.inr (some false))
  else
   AL (RM (((v4).length:Int)+(([y5.ah]:List (Ag)).length:Int)) 16)<|
   some (.inl ((IntKind.i64.wrap (v3+1)),(v4++ [y5.ah])))
 else
  some (.inr (XP a0 v4))
def UO(a0:List Ai):Option (Bool):=
 Av (λs:Int × List (Ag)=>UI a0 s.1 s.2) (0,[])
def Rw(a0:Ax):Option (Bu):=
 some (⟨1,a0.al,a0.af,a0.bq,a0.ak,a0.ab,false⟩:Bu)
def Na(a0:Int):Option (Bool):=
 (LH a0 1 60).bind λv1=>
 some v1
def Q7(a0:List Am)(v1:Int)(v2:List (Ag)):Option ((Int × List (Ag)) ⊕ Option (List (Ag))):=
 if(decide (v1<(a0.length:Int)))then
  (An a0 v1).bind λy3=>
  AL (RM (((v2).length:Int)+(([y3.ah]:List (Ag)).length:Int)) 16)<|
  some (.inl ((IntKind.i64.wrap (v1+1)),(v2++ [y3.ah])))
 else
  some (.inr (some v2))
def UN(a0:List Am):Option (List (Ag)):=
 Av (λs:Int × List (Ag)=>Q7 a0 s.1 s.2) (0,[])
def XM(a0:Am):Option (Bool):=
 (U2 a0.bg a0.bf).bind λv1=>
 some (!v1)
def Ya(a0:List Am):Option (Bool):=
 if(decide ((a0.length:Int)<=24))then
  (UN a0).bind λv1=>
  (M4 v1).bind λv2=>
  if v2 then
   (E0 a0 (λy0_=>XM y0_)).bind λv3=>
   some (!v3)
  else
   some false
 else
  some false
def XX(a0:Bu)(v6:Bool):Option (Bool):=
 if v6 then
  if(a0.bq==0)then
   if((a0.ak.length:Int)==0)then
    if((a0.ab.length:Int)==0)then
     (Na a0.al).bind λv7=>
     if a0.bk then
      if v7 then
       (M8 a0.af).bind λv8=>
       some (v8||false)
      else
       some false
     else
      some (v7&&(a0.af==0))
    else
     some false
   else
    some false
  else
   some false
 else
  if(a0.bb==4)then
   if(a0.bq==0)then
    if((a0.ak.length:Int)==0)then
     if((a0.ab.length:Int)==0)then
      if(a0.al==0)then
       (M8 a0.af).bind λv9=>
       some (v9&&(!a0.bk))
      else
       some false
     else
      some false
    else
     some false
   else
    some false
  else
   some false
def UX(a0:Bu):Option (Bool):=
 if(a0.bb==1)then
  (Na a0.al).bind λv1=>
  if v1 then
   (M8 a0.af).bind λv2=>
   if v2 then
    (LH a0.bq 0 3).bind λv3=>
    if v3 then
     if(decide ((a0.ak.length:Int)<=8))then
      (M4 a0.ak).bind λv4=>
      if v4 then
       if(decide ((a0.ab.length:Int)<=8))then
        (Ya a0.ab).bind λv5=>
        some ((v5&&(decide ((IntKind.i64.wrap ((a0.ak.length:Int)+(a0.ab.length:Int)))>0)))&&(!a0.bk))
       else
        some false
      else
       some false
     else
      some false
    else
     some false
   else
    some false
  else
   some false
 else
  if(a0.bb==2)then
   XX a0 (a0.bb==2)
  else
   XX a0 (a0.bb==3)
def fU(a0:List Am)(a1:Ag)(a2:Am->(Ag)->Option Int)(v1:Int):Option (Int × Bool):=
 if(decide (v1<(a0.length:Int)))then
  (An a0 v1).bind λy2=>
  (a2 y2 a1).bind λv3=>
  some (v1,(v3==0))
 else
  some (v1,false)
def Qv(a0:List Am)(a1:Ag)(a2:Am->(Ag)->Option Int)(v4 v5:Int):Option ((Int × Int) ⊕ Option (Int × Bool)):=
 if(decide (v4<v5))then
  (An a0 (IntKind.i64.wrap (Int.fdiv (IntKind.u64.wrap (IntKind.i64.wrap (v4+v5))) (2^(min ((1:Int)).toNat (IntKind.bits .u64)))))).bind λy6=>
  (a2 y6 a1).bind λv7=>
  if(decide (v7<0))then
   some (.inl ((IntKind.i64.wrap ((IntKind.i64.wrap (Int.fdiv (IntKind.u64.wrap (IntKind.i64.wrap (v4+v5))) (2^(min ((1:Int)).toNat (IntKind.bits .u64)))))+1)),v5))
  else
   some (.inl (v4,(IntKind.i64.wrap (Int.fdiv (IntKind.u64.wrap (IntKind.i64.wrap (v4+v5))) (2^(min ((1:Int)).toNat (IntKind.bits .u64)))))))
 else
  some (.inr (fU a0 a1 a2 v4))
def fW(a0:List Am)(a1:Ag)(a2:Am->(Ag)->Option Int):Option (Int × Bool):=
 Av (λs:Int × Int=>Qv a0 a1 a2 s.1 s.2) (0,(a0.length:Int))
def UH(a0:Ag):Option (Bool):=
 some (a0 !=a0)
def UB(a0 a1:Ag):Option (Int):=
 (UH a0).bind λv1=>
 (UH a1).bind λv2=>
 if v1 then
  if v2 then
   some 0
  else
   some (-1)
 else
  if v2 then
   some 1
  else
   if(Op.bytesLess a0 a1)then
    some (-1)
   else
    if(!(Op.bytesLess a0 a1||a0==a1))then
     some 1
    else
     some 0
def QO(a0:Am)(a1:Ag):Option (Int):=
 (UB a0.ah a1).bind λv1=>
 some v1
def Rc(a0:List Am)(a1:Ag):Option (Int × Bool):=
 (fW a0 a1 (λy0_ y1_=>QO y0_ y1_)).bind λv1=>
 some (v1.1,v1.2)
def gB(a0:List (Ag))(a1:Ag)(v1:Int):Option ((Int) ⊕ Option (Int)):=
 if(decide (v1<(a0.length:Int)))then
  (An a0 v1).bind λy2=>
  if(a1==y2)then
   some (.inr (some v1))
  else
   some (.inl (IntKind.i64.wrap (v1+1)))
 else
  some (.inr (some (-1)))
def Xx(a0:List (Ag))(a1:Ag):Option (Int):=
 Av (λs:Int=>gB a0 a1 s) 0
def Xv(a0:List (Ag))(a1:Ag):Option (Bool):=
 (Xx a0 a1).bind λv1=>
 some (decide (v1>=0))
def iW(a0:Am)(a1:List Am)(a2:List (Ag)):Option (Bool):=
 (Rc a1 a0.ah).bind λv1=>
 if v1.2 then
  some true
 else
  (Xv a2 a0.ah).bind λv2=>
  some v2
def Vd(a0:List Am)(a1:List (Ag))(a2:List Am):Option (Bool):=
 (E0 a0 (λy0_=>iW y0_ a2 a1)).bind λv1=>
 some v1
def RP(a0 a1:Ax):Option (Bool):=
 (Vd a0.ab a1.ak a1.ab).bind λv1=>
 if v1 then
  some true
 else
  (Vd a1.ab a0.ak a0.ab).bind λv2=>
  some v2
def OQ(a0 a1:Ax):Option (Bool):=
 (RP a1 a0).bind λv1=>
 some v1
def fV(a0:List Ai)(a1:Ag)(a2:Ai->(Ag)->Option Int)(v1:Int):Option (Int × Bool):=
 if(decide (v1<(a0.length:Int)))then
  (An a0 v1).bind λy2=>
  (a2 y2 a1).bind λv3=>
  some (v1,(v3==0))
 else
  some (v1,false)
def Qw(a0:List Ai)(a1:Ag)(a2:Ai->(Ag)->Option Int)(v4 v5:Int):Option ((Int × Int) ⊕ Option (Int × Bool)):=
 if(decide (v4<v5))then
  (An a0 (IntKind.i64.wrap (Int.fdiv (IntKind.u64.wrap (IntKind.i64.wrap (v4+v5))) (2^(min ((1:Int)).toNat (IntKind.bits .u64)))))).bind λy6=>
  (a2 y6 a1).bind λv7=>
  if(decide (v7<0))then
   some (.inl ((IntKind.i64.wrap ((IntKind.i64.wrap (Int.fdiv (IntKind.u64.wrap (IntKind.i64.wrap (v4+v5))) (2^(min ((1:Int)).toNat (IntKind.bits .u64)))))+1)),v5))
  else
   some (.inl (v4,(IntKind.i64.wrap (Int.fdiv (IntKind.u64.wrap (IntKind.i64.wrap (v4+v5))) (2^(min ((1:Int)).toNat (IntKind.bits .u64)))))))
 else
  some (.inr (fV a0 a1 a2 v4))
def Xs(a0:List Ai)(a1:Ag)(a2:Ai->(Ag)->Option Int):Option (Int × Bool):=
 Av (λs:Int × Int=>Qw a0 a1 a2 s.1 s.2) (0,(a0.length:Int))
def O2(a0:Ai)(a1:Ag):Option (Int):=
 (UB a0.ah a1).bind λv1=>
 some v1
def RJ(a0:List Ai)(a1:Ag):Option (Int × Bool):=
 (Xs a0 a1 (λy0_ y1_=>O2 y0_ y1_)).bind λv1=>
 some (v1.1,v1.2)
def RC(a0:List Ai)(a1:Ag):Option (Int):=
 (RJ a0 a1).bind λv1=>
 if(!v1.2)then
  some 0
 else
  (An a0 v1.1).bind λy2=>
  (An y2.aw (IntKind.i64.wrap ((y2.aw.length:Int)-1))).bind λy3=>
  some y3.af
def OP(a0:Am)(a1:Ax)(a2:Aj):Option (Bool):=
 (RC a2.aj a0.ah).bind λv1=>
 some (decide (a1.af<=v1))
def XJ(a1:List Ax)(v2:List (Ag)):Option (Bool):=
 (Qt v2).bind λv3=>
 if(decide ((a1.length:Int)<=12))then
  (Qr v3.2).bind λv4=>
  some (decide ((v4.length:Int)<=24))
 else
  some false
def XF(v5:Int)(v8:List (Ag)):Option ((Int × List (Ag)) ⊕ Option (Bool)):=
 some (.inl ((IntKind.i64.wrap (v5+1)),v8))
def OV(a0:Aj)(v5:Int)(y7:Ax)(v9:Int)(v10:List (Ag)):Option ((Int × List (Ag)) ⊕ Option ((Int × List (Ag)) ⊕ Option (Bool))):=
 if(decide (v9<(y7.ab.length:Int)))then
  (An y7.ab v9).bind λy11=>
  (RJ a0.aj y11.ah).bind λv12=>
  if v12.2 then
   (An a0.aj v12.1).bind λy13=>
   if(decide ((y13.aw.length:Int)>=16))then
    some (.inr (some (.inr (some false))))
   else
    AL (RM (((v10).length:Int)+(([y11.ah]:List (Ag)).length:Int)) 16)<|
    some (.inl ((IntKind.i64.wrap (v9+1)),(v10++ [y11.ah])))
  else
   AL (RM (((v10).length:Int)+(([y11.ah]:List (Ag)).length:Int)) 16)<|
   some (.inl ((IntKind.i64.wrap (v9+1)),(v10++ [y11.ah])))
 else
  some (.inr (XF v5 v10))
def M1(a0:Aj)(a1:List Ax)(v5:Int)(v6:List (Ag)):Option ((Int × List (Ag)) ⊕ Option (Bool)):=
 if(decide (v5<(a1.length:Int)))then
  (An a1 v5).bind λy7=>
  Av (λs:Int × List (Ag)=>OV a0 v5 y7 s.1 s.2) (0,v6)
 else
  some (.inr (XJ a1 v6))
def gH(a0:Aj)(a1:List Ax)(v1:List (Ag)):Option (Bool):=
 Av (λs:Int × List (Ag)=>M1 a0 a1 s.1 s.2) (0,v1)
def QF(a0:Aj)(a1:List Ax)(v14:Int)(v15:List (Ag)):Option ((Int × List (Ag)) ⊕ Option (Bool)):=
 if(decide (v14<(a0.aj.length:Int)))then
  (An a0.aj v14).bind λy16=>
  AL (RM (((v15).length:Int)+(([y16.ah]:List (Ag)).length:Int)) 16)<|
  some (.inl ((IntKind.i64.wrap (v14+1)),(v15++ [y16.ah])))
 else
  some (.inr (gH a0 a1 v15))
def UJ(a0:Aj)(a1:List Ax):Option (Bool):=
 Av (λs:Int × List (Ag)=>QF a0 a1 s.1 s.2) (0,[])
def Uz(a0:Aj):Option (Bool):=
 (UJ a0 a0.ae).bind λv1=>
 some v1
def J6(a0:Aj)(v2:Int):Option ((Int) ⊕ Option (Bool)):=
 if(decide (v2<(a0.ae.length:Int)))then
  (An a0.ae v2).bind λy3=>
  (Rw y3).bind λv4=>
  (UX v4).bind λv5=>
  if(decide (v2>0))then
   if v5 then
    if(decide (y3.af>a0.aq))then
     some (.inr (some false))
    else
     (An a0.ae (IntKind.i64.wrap (v2-1))).bind λy6=>
     if(decide (y3.al<=y6.al))then
      some (.inr (some false))
     else
      AL (0<=(0:Int)/\(0:Int)<=v2/\v2<=(a0.ae.length:Int))<|
      (E0 (A3 a0.ae 0 v2) (λy0_=>OQ y0_ y3)).bind λv7=>
      if v7 then
       some (.inr (some false))
      else
       (E0 y3.ab (λy0_=>OP y0_ y3 a0)).bind λv8=>
       if v8 then
        some (.inr (some false))
       else
        some (.inl (IntKind.i64.wrap (v2+1)))
   else
    some (.inr (some false))
  else
   if(((!v5)||(decide (y3.af>a0.aq)))||false)then
    some (.inr (some false))
   else
    AL (0<=(0:Int)/\(0:Int)<=v2/\v2<=(a0.ae.length:Int))<|
    (E0 (A3 a0.ae 0 v2) (λy0_=>OQ y0_ y3)).bind λv9=>
    if v9 then
     some (.inr (some false))
    else
     (E0 y3.ab (λy0_=>OP y0_ y3 a0)).bind λv10=>
     if v10 then
      some (.inr (some false))
     else
      some (.inl (IntKind.i64.wrap (v2+1)))
 else
  some (.inr (Uz a0))
def QG(a0:Aj):Option (Bool):=
 Av (λs:Int=>J6 a0 s) 0
def fY(a0:List Ax)(a1:Int)(a2:Ax->Int->Option Int)(v1:Int):Option (Int × Bool):=
 if(decide (v1<(a0.length:Int)))then
  (An a0 v1).bind λy2=>
  (a2 y2 a1).bind λv3=>
  some (v1,(v3==0))
 else
  some (v1,false)
def Qx(a0:List Ax)(a1:Int)(a2:Ax->Int->Option Int)(v4 v5:Int):Option ((Int × Int) ⊕ Option (Int × Bool)):=
 if(decide (v4<v5))then
  (An a0 (IntKind.i64.wrap (Int.fdiv (IntKind.u64.wrap (IntKind.i64.wrap (v4+v5))) (2^(min ((1:Int)).toNat (IntKind.bits .u64)))))).bind λy6=>
  (a2 y6 a1).bind λv7=>
  if(decide (v7<0))then
   some (.inl ((IntKind.i64.wrap ((IntKind.i64.wrap (Int.fdiv (IntKind.u64.wrap (IntKind.i64.wrap (v4+v5))) (2^(min ((1:Int)).toNat (IntKind.bits .u64)))))+1)),v5))
  else
   some (.inl (v4,(IntKind.i64.wrap (Int.fdiv (IntKind.u64.wrap (IntKind.i64.wrap (v4+v5))) (2^(min ((1:Int)).toNat (IntKind.bits .u64)))))))
 else
  some (.inr (fY a0 a1 a2 v4))
def Xr(a0:List Ax)(a1:Int)(a2:Ax->Int->Option Int):Option (Int × Bool):=
 Av (λs:Int × Int=>Qx a0 a1 a2 s.1 s.2) (0,(a0.length:Int))
def UR(a0:Int):Option (Bool):=
 some (a0 !=a0)
def UE(a0 a1:Int):Option (Int):=
 (UR a0).bind λv1=>
 (UR a1).bind λv2=>
 if v1 then
  if v2 then
   some 0
  else
   some (-1)
 else
  if v2 then
   some 1
  else
   if(decide (a0<a1))then
    some (-1)
   else
    if(decide (a0>a1))then
     some 1
    else
     some 0
def OR(a0:Ax)(a1:Int):Option (Int):=
 (UE a0.al a1).bind λv1=>
 some v1
def KE(a0:Aj)(a1:Int):Option (Int × Bool):=
 (Xr a0.ae a1 (λy0_ y1_=>OR y0_ y1_)).bind λv1=>
 some (v1.1,v1.2)
def J5(a0:Aj)(v4:Int):Option ((Int) ⊕ Option (Bool)):=
 if(decide (v4<(a0.ao.length:Int)))then
  (An a0.ao v4).bind λy5=>
  if y5.bk then
   (LH y5.af 1 a0.aq).bind λv6=>
   (Na y5.al).bind λv7=>
   if(decide (v4>0))then
    if v7 then
     if v6 then
      (An a0.ao (IntKind.i64.wrap (v4-1))).bind λy8=>
      if(decide (y5.al<=y8.al))then
       some (.inr (some false))
      else
       (KE a0 y5.al).bind λv9=>
       if v9.2 then
        some (.inr (some false))
       else
        some (.inl (IntKind.i64.wrap (v4+1)))
     else
      some (.inr (some false))
    else
     some (.inr (some false))
   else
    if(((!v7)||(!(v6||false)))||false)then
     some (.inr (some false))
    else
     (KE a0 y5.al).bind λv10=>
     if v10.2 then
      some (.inr (some false))
     else
      some (.inl (IntKind.i64.wrap (v4+1)))
  else
   (Na y5.al).bind λv11=>
   if(decide (v4>0))then
    if v11 then
     if(y5.af==0)then
      (An a0.ao (IntKind.i64.wrap (v4-1))).bind λy12=>
      if(decide (y5.al<=y12.al))then
       some (.inr (some false))
      else
       (KE a0 y5.al).bind λv13=>
       if v13.2 then
        some (.inr (some false))
       else
        some (.inl (IntKind.i64.wrap (v4+1)))
     else
      some (.inr (some false))
    else
     some (.inr (some false))
   else
    if(((!v11)||(!(y5.af==0)))||false)then
     some (.inr (some false))
    else
     (KE a0 y5.al).bind λv14=>
     if v14.2 then
      some (.inr (some false))
     else
      some (.inl (IntKind.i64.wrap (v4+1)))
 else
  some (.inr (some true))
def QZ(a0:Aj):Option (Bool):=
 Av (λs:Int=>J5 a0 s) 0
def J4(a0:Aj)(v15:Int):Option ((Int) ⊕ Option (Bool)):=
 if(decide (v15<(a0.aj.length:Int)))then
  (An a0.aj v15).bind λy16=>
  (RC a0.aj y16.ah).bind λv17=>
  if(decide (v17>a0.aq))then
   some (.inr (some false))
  else
   some (.inl (IntKind.i64.wrap (v15+1)))
 else
  some (.inr (QZ a0))
def Rj(a0:Aj):Option (Bool):=
 (RN a0.aq).bind λv1=>
 if v1 then
  (UO a0.aj).bind λv2=>
  if v2 then
   (QG a0).bind λv3=>
   if((!v3)||(decide ((a0.ao.length:Int)>60)))then
    some false
   else
    Av (λs:Int=>J4 a0 s) 0
  else
   some false
 else
  some false
def X4(a0:Aj):Option (Bool):=
 (Rj a0).bind λv1=>
 some (!v1)
def jW(a0:List (Ag))(a1:List Am):Option (Bool):=
 (UX (⟨1,1,1,0,a0,a1,false⟩:Bu)).bind λv1=>
 some v1
def YD(a0:AM):Option (Bool):=
 (Na a0.al).bind λv1=>
 if v1 then
  (jW a0.ak a0.ab).bind λv2=>
  some v2
 else
  some false
def gZ(a0 a1:AM):Option (Bool):=
 some (a0.al==a1.al)
def gP(a0:Az):Option (Bool):=
 some (decide ((a0.ar.length:Int)<=8))
def OU(a0:Az)(v3:Int):Option ((Int) ⊕ Option (Bool)):=
 if(decide (v3<(a0.ar.length:Int)))then
  (An a0.ar v3).bind λy4=>
  (YD y4).bind λv5=>
  if v5 then
   AL (0<=(0:Int)/\(0:Int)<=v3/\v3<=(a0.ar.length:Int))<|
   (E0 (A3 a0.ar 0 v3) (λy0_=>gZ y0_ y4)).bind λv6=>
   if v6 then
    some (.inr (some false))
   else
    some (.inl (IntKind.i64.wrap (v3+1)))
  else
   some (.inr (some false))
 else
  some (.inr (gP a0))
def Yb(a0:Az):Option (Bool):=
 (Yq a0.az).bind λv1=>
 if v1 then
  if((a0.ax.length:Int) !=(IntKind.i64.wrap ((a0.az.length:Int)+1)))then
   some false
  else
   (E0 a0.ax (λy0_=>X4 y0_)).bind λv2=>
   if v2 then
    some false
   else
    Av (λs:Int=>OU a0 s) 0
 else
  some false
def gE(a0:AM)(a1:Ea):Option (Bool):=
 some (a0.al==a1.al)
def IE(xs:List (Ag)):Option (List (Ag)):=Pr 16 xs
def YX(a0:List (Ag))(a1:List Am):Option (List (Ag)):=
 (IE a0).bind λv1=>
 (UN a1).bind λv2=>
 AL (RM (((v1).length:Int)+((v2).length:Int)) 16)<|
 (Qt (v1++v2)).bind λv3=>
 (Qr v3.2).bind λv4=>
 some v4
def Ra(a0:List (Ag))(a1:Ag)(v1 v2:Int):Option ((Int × Int) ⊕ Option (Int)):=
 if(decide (v2<(a0.length:Int)))then
  (An a0 v2).bind λy3=>
  if(Op.bytesLess y3 a1||y3==a1)then
   some (.inl ((IntKind.i64.wrap (v1+1)),(IntKind.i64.wrap (v2+1))))
  else
   some (.inl (v1,(IntKind.i64.wrap (v2+1))))
 else
  some (.inr (some v1))
def Vb(a0:List (Ag))(a1:Ag):Option (Int):=
 Av (λs:Int × Int=>Ra a0 a1 s.1 s.2) (0,0)
def iJ(v2:List Int):Option (List Int):=
 (Xu v2).bind λv3=>
 some v3
def Rx(a0:List (Ag))(v1:List (Ag))(v4:Int)(v5:List Int):Option ((Int × List Int) ⊕ Option (List Int)):=
 if(decide (v4<(v1.length:Int)))then
  (An v1 v4).bind λy6=>
  (Vb a0 y6).bind λv7=>
  AL (RM (((v5).length:Int)+(([v7]:List Int).length:Int)) 8)<|
  some (.inl ((IntKind.i64.wrap (v4+1)),(v5++ [v7])))
 else
  some (.inr (iJ v5))
def YE(a0:List (Ag))(a1:List (Ag))(a2:List Am):Option (List Int):=
 (YX a1 a2).bind λv1=>
 Av (λs:Int × List Int=>Rx a0 v1 s.1 s.2) (0,[])
def M6(a0:Az)(a1:AM):Option (List Int):=
 (YE a0.az a1.ak a1.ab).bind λv1=>
 some v1
def Qu(a0:List Int)(a1 v1:Int):Option ((Int) ⊕ Option (Int)):=
 if(decide (v1<(a0.length:Int)))then
  (An a0 v1).bind λy2=>
  if(a1==y2)then
   some (.inr (some v1))
  else
   some (.inl (IntKind.i64.wrap (v1+1)))
 else
  some (.inr (some (-1)))
def gD(a0:List Int)(a1:Int):Option (Int):=
 Av (λs:Int=>Qu a0 a1 s) 0
def UA(a0:List Int)(a1:Int):Option (Bool):=
 (gD a0 a1).bind λv1=>
 some (decide (v1>=0))
def fX(a0:List Bh)(a1:Int)(a2:Bh->Int->Option Int)(v1:Int):Option (Int × Bool):=
 if(decide (v1<(a0.length:Int)))then
  (An a0 v1).bind λy2=>
  (a2 y2 a1).bind λv3=>
  some (v1,(v3==0))
 else
  some (v1,false)
def Qy(a0:List Bh)(a1:Int)(a2:Bh->Int->Option Int)(v4 v5:Int):Option ((Int × Int) ⊕ Option (Int × Bool)):=
 if(decide (v4<v5))then
  (An a0 (IntKind.i64.wrap (Int.fdiv (IntKind.u64.wrap (IntKind.i64.wrap (v4+v5))) (2^(min ((1:Int)).toNat (IntKind.bits .u64)))))).bind λy6=>
  (a2 y6 a1).bind λv7=>
  if(decide (v7<0))then
   some (.inl ((IntKind.i64.wrap ((IntKind.i64.wrap (Int.fdiv (IntKind.u64.wrap (IntKind.i64.wrap (v4+v5))) (2^(min ((1:Int)).toNat (IntKind.bits .u64)))))+1)),v5))
  else
   some (.inl (v4,(IntKind.i64.wrap (Int.fdiv (IntKind.u64.wrap (IntKind.i64.wrap (v4+v5))) (2^(min ((1:Int)).toNat (IntKind.bits .u64)))))))
 else
  some (.inr (fX a0 a1 a2 v4))
def Xq(a0:List Bh)(a1:Int)(a2:Bh->Int->Option Int):Option (Int × Bool):=
 Av (λs:Int × Int=>Qy a0 a1 a2 s.1 s.2) (0,(a0.length:Int))
def OS(a0:Bh)(a1:Int):Option (Int):=
 (UE a0.al a1).bind λv1=>
 some v1
def M3(a0:Aj)(a1:Int):Option (Int × Bool):=
 (Xq a0.ao a1 (λy0_ y1_=>OS y0_ y1_)).bind λv1=>
 some (v1.1,v1.2)
def jZ(a0:Int):Option (Int × Bool):=
 if(decide (a0>100000))then
  some (0,false)
 else
  some (a0,true)
def Yt(a0:Ag)(a1:List (Ag))(a2:Int):Option (Bool):=
 (Vb a1 a0).bind λv1=>
 some (v1 !=a2)
def YJ(a0:List (Ag))(a1:List (Ag))(a2:Int):Option (List (Ag)):=
 (IE a1).bind λv1=>
 (Pc v1 (λy0_=>Yt y0_ a0 a2)).bind λv2=>
 some v2
def LG(xs:List Am):Option (List Am):=Pr 40 xs
def X3(a0:Am)(a1:List (Ag))(a2:Int):Option (Bool):=
 (Vb a1 a0.ah).bind λv1=>
 some (v1 !=a2)
def Yn(a0:List (Ag))(a1:List Am)(a2:Int):Option (List Am):=
 (LG a1).bind λv1=>
 (Pc v1 (λy0_=>X3 y0_ a0 a2)).bind λv2=>
 some v2
def fZ(xs:List Bh):Option (List Bh):=Pr 24 xs
def RO(a0:Bu):Option (Ax):=
 (IE a0.ak).bind λv1=>
 (LG a0.ab).bind λv2=>
 some (⟨a0.al,a0.af,a0.bq,v1,v2⟩:Ax)
def Yf(a0:Ax):Option (Ax):=
 (Rw a0).bind λv1=>
 (RO v1).bind λv2=>
 some v2
def QW(a0:Aj)(v1:List Ai)(v2:List Bh)(v3:Int)(v4:List Ax):Option ((Int × List Ax) ⊕ Option (Aj)):=
 if(decide (v3<(a0.ae.length:Int)))then
  (An a0.ae v3).bind λy5=>
  (Yf y5).bind λv6=>
  AL (RM (((v4).length:Int)+(([v6]:List Ax).length:Int)) 72)<|
  some (.inl ((IntKind.i64.wrap (v3+1)),(v4++ [v6])))
 else
  some (.inr (some (⟨a0.aq,v1,v4,v2⟩:Aj)))
def OY(a0:Aj):Option (Aj):=
 (Rb a0.aj).bind λv1=>
 (fZ a0.ao).bind λv2=>
 Av (λs:Int × List Ax=>QW a0 v1 v2 s.1 s.2) (0,[])
def X8(v2:List Ai):Option (List Ai × Bool):=
 (UO v2).bind λv3=>
 if(!v3)then
  some ([],false)
 else
  some (v2,true)
def QM(a1:List Am)(a2 v4:Int)(v5:List Ai):Option ((Int × List Ai) ⊕ Option (List Ai × Bool)):=
 if(decide (v4<(a1.length:Int)))then
  (An a1 v4).bind λy6=>
  (RC v5 y6.ah).bind λv7=>
  if(decide (a2<=v7))then
   some (.inr (some ([],false)))
  else
   (RJ v5 y6.ah).bind λv8=>
   if(!v8.2)then
    (H4 v5 v8.1 ([(⟨y6.ah,[]⟩:Ai)]:List Ai)).bind λv9=>
    (An v9 v8.1).bind λy10=>
    AL (RM (((y10.aw).length:Int)+(([(⟨a2,y6.bg,y6.bf⟩:BE)]:List BE).length:Int)) 32)<|
    some (.inl ((IntKind.i64.wrap (v4+1)),(v9.set (v8.1).toNat {y10 with aw:=(y10.aw++ [(⟨a2,y6.bg,y6.bf⟩:BE)])})))
   else
    (An v5 v8.1).bind λy11=>
    AL (RM (((y11.aw).length:Int)+(([(⟨a2,y6.bg,y6.bf⟩:BE)]:List BE).length:Int)) 32)<|
    some (.inl ((IntKind.i64.wrap (v4+1)),(v5.set (v8.1).toNat {y11 with aw:=(y11.aw++ [(⟨a2,y6.bg,y6.bf⟩:BE)])})))
 else
  some (.inr (X8 v5))
def Yo(a0:List Ai)(a1:List Am)(a2:Int):Option (List Ai × Bool):=
 (Rb a0).bind λv1=>
 Av (λs:Int × List Ai=>QM a1 a2 s.1 s.2) (0,v1)
def XC(a1:Bu)(v1:Aj)(v2:Int × Bool)(v3:List Ai)(v4:Int):Option (Aj × Bool):=
 if v2.2 then
  (VD v1.ae v2.1 (IntKind.i64.wrap (v2.1+1))).bind λv5=>
  (M3 (⟨v4,v3,v5,v1.ao⟩:Aj) a1.al).bind λv6=>
  (H4 v1.ao v6.1 ([(⟨a1.al,a1.bk,a1.af⟩:Bh)]:List Bh)).bind λv7=>
  some ((⟨v4,v3,v5,v7⟩:Aj),true)
 else
  (M3 (⟨v4,v3,v1.ae,v1.ao⟩:Aj) a1.al).bind λv8=>
  (H4 v1.ao v8.1 ([(⟨a1.al,a1.bk,a1.af⟩:Bh)]:List Bh)).bind λv9=>
  some ((⟨v4,v3,v1.ae,v9⟩:Aj),true)
def XK(a0:Aj)(a1:Bu):Option (Aj × Bool):=
 (OY a0).bind λv1=>
 (KE v1 a1.al).bind λv2=>
 if a1.bk then
  if v2.2 then
   (An v1.ae v2.1).bind λy10=>
   if(decide (y10.af>a1.af))then
    some ((⟨0,[],[],[]⟩:Aj),false)
   else
    (Yo v1.aj y10.ab a1.af).bind λv11=>
    if(!v11.2)then
     some ((⟨0,[],[],[]⟩:Aj),false)
    else
     XC a1 v1 v2 v11.1 (bif (decide (a1.af>v1.aq))then a1.af else v1.aq)
  else
   some ((⟨0,[],[],[]⟩:Aj),false)
 else
  XC a1 v1 v2 v1.aj v1.aq
def XG(a0 a1:Ax):Option (Bool):=
 (RP a1 a0).bind λv1=>
 some v1
def gA(xs:List Ax):Option (List Ax):=Pr 72 xs
def XQ(a0:Aj)(a1:List (Ag))(a2:List Am):Option (Bool):=
 (E0 a0.ae (λy0_=>XG y0_ (⟨0,0,0,a1,a2⟩:Ax))).bind λv1=>
 if v1 then
  some false
 else
  (gA a0.ae).bind λv2=>
  AL (RM (((v2).length:Int)+(([(⟨0,0,0,a1,a2⟩:Ax)]:List Ax).length:Int)) 72)<|
  (UJ a0 (v2++ [(⟨0,0,0,a1,a2⟩:Ax)])).bind λv3=>
  some v3
def XL(a0:Aj)(a1:Bu):Option (Aj × Bool):=
 if(a1.bb==4)then
  if(decide (a1.af<=a0.aq))then
   some ((⟨0,[],[],[]⟩:Aj),false)
  else
   (OY a0).bind λv1=>
   some ((⟨a1.af,v1.aj,v1.ae,v1.ao⟩:Aj),true)
 else
  (M3 a0 a1.al).bind λv2=>
  if v2.2 then
   some ((⟨0,[],[],[]⟩:Aj),false)
  else
   if(a1.bb !=1)then
    (XK a0 a1).bind λv3=>
    some (v3.1,v3.2)
   else
    (KE a0 a1.al).bind λv4=>
    if v4.2 then
     some ((⟨0,[],[],[]⟩:Aj),false)
    else
     if(decide (a1.af<=a0.aq))then
      some ((⟨0,[],[],[]⟩:Aj),false)
     else
      (XQ a0 a1.ak a1.ab).bind λv5=>
      if(!v5)then
       some ((⟨0,[],[],[]⟩:Aj),false)
      else
       (OY a0).bind λv6=>
       (RO a1).bind λv7=>
       (H4 v6.ae v4.1 ([v7]:List Ax)).bind λv8=>
       some ((⟨a1.af,v6.aj,v8,v6.ao⟩:Aj),true)
def Yu(a0:AM):Option (AM):=
 (IE a0.ak).bind λv1=>
 (LG a0.ab).bind λv2=>
 some (⟨a0.al,v1,v2⟩:AM)
def QV(a0:Az)(v1:List (Ag))(v2:List Aj)(v3:Int)(v4:List AM):Option ((Int × List AM) ⊕ Option (Az)):=
 if(decide (v3<(a0.ar.length:Int)))then
  (An a0.ar v3).bind λy5=>
  (Yu y5).bind λv6=>
  AL (RM (((v4).length:Int)+(([v6]:List AM).length:Int)) 56)<|
  some (.inl ((IntKind.i64.wrap (v3+1)),(v4++ [v6])))
 else
  some (.inr (some (⟨v1,v2,v4⟩:Az)))
def tQ(a0:Az)(v1:List (Ag))(v2:List Aj):Option (Az):=
 Av (λs:Int × List AM=>QV a0 v1 v2 s.1 s.2) (0,[])
def QP(a0:Az)(v1:List (Ag))(v7:Int)(v8:List Aj):Option ((Int × List Aj) ⊕ Option (Az)):=
 if(decide (v7<(a0.ax.length:Int)))then
  (An a0.ax v7).bind λy9=>
  (OY y9).bind λv10=>
  AL (RM (((v8).length:Int)+(([v10]:List Aj).length:Int)) 80)<|
  some (.inl ((IntKind.i64.wrap (v7+1)),(v8++ [v10])))
 else
  some (.inr (tQ a0 v1 v8))
def Ye(a0:Az):Option (Az):=
 (IE a0.az).bind λv1=>
 Av (λs:Int × List Aj=>QP a0 v1 s.1 s.2) (0,[])
def OW(a0:Az)(a1:Int)(a2:Bu):Option (Az × Bool):=
 (An a0.ax a1).bind λy1=>
 (XL y1 a2).bind λv2=>
 if(!v2.2)then
  some ((⟨[],[],[]⟩:Az),false)
 else
  (Ye a0).bind λv3=>
  (An v3.ax a1).bind λy4=>
  some ((⟨v3.az,(v3.ax.set (a1).toNat v2.1),v3.ar⟩:Az),true)
def XI(a0:Az)(a1:AM)(a2:Int):Option (Az × Bool):=
 (M6 a0 a1).bind λv1=>
 (UA v1 a2).bind λv2=>
 if(!v2)then
  some ((⟨[],[],[]⟩:Az),false)
 else
  (An v1 0).bind λy3=>
  (An a0.ax y3).bind λy4=>
  (M3 y4 a1.al).bind λv5=>
  if v5.2 then
   some ((⟨[],[],[]⟩:Az),false)
  else
   (An a0.ax a2).bind λy6=>
   (jZ (IntKind.i64.wrap (y6.aq+1))).bind λv7=>
   if(!v7.2)then
    some ((⟨[],[],[]⟩:Az),false)
   else
    (YJ a0.az a1.ak a2).bind λv8=>
    (Yn a0.az a1.ab a2).bind λv9=>
    (OW a0 a2 (⟨1,a1.al,v7.1,y3,v8,v9,false⟩:Bu)).bind λv10=>
    some (v10.1,v10.2)
def Xz(a0:Az)(a1:AM)(v3:Int):Option (Az × Bool):=
 (M6 a0 a1).bind λv4=>
 (An v4 0).bind λy5=>
 (OW a0 y5 (⟨2,a1.al,v3,0,[],[],true⟩:Bu)).bind λv6=>
 some (v6.1,v6.2)
def QJ(a0:Az)(a1:AM)(v2:List Int)(v7 v8:Int):Option ((Int × Int) ⊕ Option (Az × Bool)):=
 if(decide (v8<(v2.length:Int)))then
  (An v2 v8).bind λy9=>
  (An a0.ax y9).bind λy10=>
  (KE y10 a1.al).bind λv11=>
  if(!v11.2)then
   some (.inr (some ((⟨[],[],[]⟩:Az),false)))
  else
   (An y10.ae v11.1).bind λy12=>
   some (.inl ((bif (decide (y12.af>v7))then y12.af else v7),(IntKind.i64.wrap (v8+1))))
 else
  some (.inr (Xz a0 a1 v7))
def XR(a0:Az)(a1:AM)(a2:Int):Option (Az × Bool):=
 (RN a2).bind λv1=>
 if(!v1)then
  some ((⟨[],[],[]⟩:Az),false)
 else
  (M6 a0 a1).bind λv2=>
  Av (λs:Int × Int=>QJ a0 a1 v2 s.1 s.2) (a2,0)
def XU(a0:Az)(a1:AM):Option (Az × Bool):=
 (M6 a0 a1).bind λv1=>
 (An v1 0).bind λy2=>
 (OW a0 y2 (⟨2,a1.al,0,0,[],[],false⟩:Bu)).bind λv3=>
 some (v3.1,v3.2)
def XB(a0:Az)(a1:AM)(a2:Int)(y3:Aj)(v4:Int × Bool)(v5:Bool):Option (Az × Bool):=
 if v5 then
  some ((⟨[],[],[]⟩:Az),false)
 else
  (An y3.ao v4.1).bind λy6=>
  (OW a0 a2 (⟨3,a1.al,y6.af,0,[],[],y6.bk⟩:Bu)).bind λv7=>
  some (v7.1,v7.2)
def XH(a0:Az)(a1:AM)(a2:Int):Option (Az × Bool):=
 (M6 a0 a1).bind λv1=>
 (An v1 0).bind λy2=>
 (An a0.ax y2).bind λy3=>
 (M3 y3 a1.al).bind λv4=>
 if(!v4.2)then
  XB a0 a1 a2 y3 v4 true
 else
  AL (0<=(1:Int)/\(1:Int)<=(v1.length:Int)/\(v1.length:Int)<=(v1.length:Int))<|
  (UA (A3 v1 1 (v1.length:Int)) a2).bind λv8=>
  XB a0 a1 a2 y3 v4 (!v8)
def X6(a0:Az)(a1:Ea):Option (Az × Bool):=
 (Gu a0.ar (λy0_=>gE y0_ a1)).bind λv1=>
 if(decide (v1<0))then
  some ((⟨[],[],[]⟩:Az),false)
 else
  (An a0.ar v1).bind λy2=>
  if((a1.bb==1)&&(a1.af==0))then
   (XI a0 y2 a1.bm).bind λv3=>
   some (v3.1,v3.2)
  else
   if((a1.bb==2)&&(a1.bm==0))then
    (XR a0 y2 a1.af).bind λv4=>
    some (v4.1,v4.2)
   else
    if(((a1.bb==3)&&(a1.bm==0))&&(a1.af==0))then
     (XU a0 y2).bind λv5=>
     some (v5.1,v5.2)
    else
     if((a1.bb==4)&&(a1.af==0))then
      (XH a0 y2 a1.bm).bind λv6=>
      some (v6.1,v6.2)
     else
      some ((⟨[],[],[]⟩:Az),false)
def U3(a0:Az)(a1:Ea):Option (Az × Bool):=
 (Yb a0).bind λv1=>
 if(!v1)then
  some ((⟨[],[],[]⟩:Az),false)
 else
  (X6 a0 a1).bind λv2=>
  some (v2.1,v2.2)
def UF(a0:List (Ag))(a1:List (Ag))(v1:Int):Option ((Int) ⊕ Option (Bool)):=
 if(decide (v1<(a0.length:Int)))then
  (An a0 v1).bind λy2=>
  (An a1 v1).bind λy3=>
  if(y2 !=y3)then
   some (.inr (some false))
  else
   some (.inl (IntKind.i64.wrap (v1+1)))
 else
  some (.inr (some true))
def Re(a0:List (Ag))(a1:List (Ag)):Option (Bool):=
 if((a0.length:Int) !=(a1.length:Int))then
  some false
 else
  Av (λs:Int=>UF a0 a1 s) 0
def Zd(a0 a1:BE):Option (Bool):=
 if(a0.af !=a1.af)then
  some false
 else
  if(a0.bg !=a1.bg)then
   some false
  else
   if(a0.bf !=a1.bf)then
    some false
   else
    some true
def kD(a0 a1:List BE):Option (Bool):=K0 Zd a0 a1
def Y4(a0 a1:Ai):Option (Bool):=
 if(a0.ah !=a1.ah)then
  some false
 else
  (kD a0.aw a1.aw).bind λv1=>
  if(!v1)then
   some false
  else
   some true
def jI(a0 a1:List Ai):Option (Bool):=K0 Y4 a0 a1
def YK(a0 a1:Am):Option (Bool):=
 if(a0.ah !=a1.ah)then
  some false
 else
  if(a0.bg !=a1.bg)then
   some false
  else
   if(a0.bf !=a1.bf)then
    some false
   else
    some true
def Yd(a0 a1:List Am):Option (Bool):=K0 YK a0 a1
def Y2(a0 a1:Ax):Option (Bool):=
 if(a0.al !=a1.al)then
  some false
 else
  if(a0.af !=a1.af)then
   some false
  else
   if(a0.bq !=a1.bq)then
    some false
   else
    (Re a0.ak a1.ak).bind λv1=>
    if(!v1)then
     some false
    else
     (Yd a0.ab a1.ab).bind λv2=>
     if(!v2)then
      some false
     else
      some true
def jN(a0 a1:List Ax):Option (Bool):=K0 Y2 a0 a1
def YW(a0 a1:Bh):Option (Bool):=
 if(a0.al !=a1.al)then
  some false
 else
  if(a0.bk !=a1.bk)then
   some false
  else
   if(a0.af !=a1.af)then
    some false
   else
    some true
def jP(a0 a1:List Bh):Option (Bool):=K0 YW a0 a1
def Yx(a0 a1:Aj):Option (Bool):=
 if(a0.aq !=a1.aq)then
  some false
 else
  (jI a0.aj a1.aj).bind λv1=>
  if(!v1)then
   some false
  else
   (jN a0.ae a1.ae).bind λv2=>
   if(!v2)then
    some false
   else
    (jP a0.ao a1.ao).bind λv3=>
    if(!v3)then
     some false
    else
     some true
def iN(a0 a1:List Aj):Option (Bool):=K0 Yx a0 a1
def Yz(a0 a1:AM):Option (Bool):=
 if(a0.al !=a1.al)then
  some false
 else
  (Re a0.ak a1.ak).bind λv1=>
  if(!v1)then
   some false
  else
   (Yd a0.ab a1.ab).bind λv2=>
   if(!v2)then
    some false
   else
    some true
def jV(a0 a1:List AM):Option (Bool):=K0 Yz a0 a1
def O5(a0 a1:Az):Option (Bool):=
 (Re a0.az a1.az).bind λv1=>
 if(!v1)then
  some false
 else
  (iN a0.ax a1.ax).bind λv2=>
  if(!v2)then
   some false
  else
   (jV a0.ar a1.ar).bind λv3=>
   if(!v3)then
    some false
   else
    some true
def tR(v1:Ag):Option (Ag):=
 AL ((([109]:Ag)).length+(v1).length<=9223372036854775807)<|
 some ((([109]:Ag):Ag)++v1)
def M5(v2:Int)(v3:Ag):Option ((Int × Ag) ⊕ Option (Ag)):=
 if(decide (v2>0))then
  AL (([(IntKind.u8.wrap (IntKind.i64.wrap ((48:Int)+(Int.tmod v2 10))))]:List Int).length<=9223372036854775807)<|
  AL ((([(IntKind.u8.wrap (IntKind.i64.wrap ((48:Int)+(Int.tmod v2 10))))].map λn=>UInt8.ofNat n.toNat)).length+(v3).length<=9223372036854775807)<|
  some (.inl ((IntKind.i64.wrap (Int.tdiv v2 10)),(([(IntKind.u8.wrap (IntKind.i64.wrap ((48:Int)+(Int.tmod v2 10))))].map λn=>UInt8.ofNat n.toNat)++v3)))
 else
  some (.inr (tR v3))
def Ho(a0:Int):Option (Ag):=
 if(decide (a0<=0))then
  some ([109,48]:Ag)
 else
  Av (λs:Int × Ag=>M5 s.1 s.2) (a0,([]:Ag))
def QH(v1 v2:Int)(v3:List (Ag)):Option ((Int × Int × List (Ag)) ⊕ Option (Int × List (Ag))):=
 if(decide (v2<(v3.length:Int)))then
  (Ho v1).bind λv4=>
  (An v3 v2).bind λy5=>
  some (.inl ((IntKind.i64.wrap (v1+1)),(IntKind.i64.wrap (v2+1)),(v3.set (v2).toNat v4)))
 else
  some (.inr (some (v1,v3)))
def UD(a0:List (Ag))(a1:Int):Option (Int × List (Ag)):=
 Av (λs:Int × Int × List (Ag)=>QH s.1 s.2.1 s.2.2) (a1,0,a0)
def QS(v1 v2:Int)(v3:List BE):Option ((Int × Int × List BE) ⊕ Option (Int × List BE)):=
 if(decide (v2<(v3.length:Int)))then
  (An v3 v2).bind λy4=>
  (Ho (IntKind.i64.wrap (v1+1))).bind λv5=>
  some (.inl ((IntKind.i64.wrap ((IntKind.i64.wrap ((IntKind.i64.wrap (v1+1))+1))+1)),(IntKind.i64.wrap (v2+1)),(((v3.set (v2).toNat {y4 with af:=v1}).set (v2).toNat {{y4 with af:=v1}with bg:=v5}).set (v2).toNat {{{y4 with af:=v1}with bg:=v5}with bf:=((Int.tmod (IntKind.i64.wrap ((IntKind.i64.wrap (v1+1))+1)) 3)==0)})))
 else
  some (.inr (some (v1,v3)))
def iL(a0:List BE)(a1:Int):Option (Int × List BE):=
 Av (λs:Int × Int × List BE=>QS s.1 s.2.1 s.2.2) (a1,0,a0)
def Q3(v1 v2:Int)(v3:List Ai):Option ((Int × Int × List Ai) ⊕ Option (Int × List Ai)):=
 if(decide (v2<(v3.length:Int)))then
  (Ho v1).bind λv4=>
  (An v3 v2).bind λy5=>
  (iL ({y5 with ah:=v4}.aw) (IntKind.i64.wrap (v1+1))).bind λv6=>
  some (.inl (v6.1,(IntKind.i64.wrap (v2+1)),((v3.set (v2).toNat {y5 with ah:=v4}).set (v2).toNat {{y5 with ah:=v4}with aw:=v6.2})))
 else
  some (.inr (some (v1,v3)))
def iS(a0:List Ai)(a1:Int):Option (Int × List Ai):=
 Av (λs:Int × Int × List Ai=>Q3 s.1 s.2.1 s.2.2) (a1,0,a0)
def Qz(v1 v2:Int)(v3:List Am):Option ((Int × Int × List Am) ⊕ Option (Int × List Am)):=
 if(decide (v2<(v3.length:Int)))then
  (Ho v1).bind λv4=>
  (An v3 v2).bind λy5=>
  (Ho (IntKind.i64.wrap (v1+1))).bind λv6=>
  some (.inl ((IntKind.i64.wrap ((IntKind.i64.wrap ((IntKind.i64.wrap (v1+1))+1))+1)),(IntKind.i64.wrap (v2+1)),(((v3.set (v2).toNat {y5 with ah:=v4}).set (v2).toNat {{y5 with ah:=v4}with bg:=v6}).set (v2).toNat {{{y5 with ah:=v4}with bg:=v6}with bf:=((Int.tmod (IntKind.i64.wrap ((IntKind.i64.wrap (v1+1))+1)) 3)==0)})))
 else
  some (.inr (some (v1,v3)))
def XZ(a0:List Am)(a1:Int):Option (Int × List Am):=
 Av (λs:Int × Int × List Am=>Qz s.1 s.2.1 s.2.2) (a1,0,a0)
def Q4(v1 v2:Int)(v3:List Ax):Option ((Int × Int × List Ax) ⊕ Option (Int × List Ax)):=
 if(decide (v2<(v3.length:Int)))then
  (An v3 v2).bind λy4=>
  (UD ({{{y4 with al:=v1}with af:=(IntKind.i64.wrap (v1+1))}with bq:=(IntKind.i64.wrap ((IntKind.i64.wrap (v1+1))+1))}.ak) (IntKind.i64.wrap ((IntKind.i64.wrap ((IntKind.i64.wrap (v1+1))+1))+1))).bind λv5=>
  (XZ ({{{{y4 with al:=v1}with af:=(IntKind.i64.wrap (v1+1))}with bq:=(IntKind.i64.wrap ((IntKind.i64.wrap (v1+1))+1))}with ak:=v5.2}.ab) v5.1).bind λv6=>
  some (.inl (v6.1,(IntKind.i64.wrap (v2+1)),(((((v3.set (v2).toNat {y4 with al:=v1}).set (v2).toNat {{y4 with al:=v1}with af:=(IntKind.i64.wrap (v1+1))}).set (v2).toNat {{{y4 with al:=v1}with af:=(IntKind.i64.wrap (v1+1))}with bq:=(IntKind.i64.wrap ((IntKind.i64.wrap (v1+1))+1))}).set (v2).toNat {{{{y4 with al:=v1}with af:=(IntKind.i64.wrap (v1+1))}with bq:=(IntKind.i64.wrap ((IntKind.i64.wrap (v1+1))+1))}with ak:=v5.2}).set (v2).toNat {{{{{y4 with al:=v1}with af:=(IntKind.i64.wrap (v1+1))}with bq:=(IntKind.i64.wrap ((IntKind.i64.wrap (v1+1))+1))}with ak:=v5.2}with ab:=v6.2})))
 else
  some (.inr (some (v1,v3)))
def iV(a0:List Ax)(a1:Int):Option (Int × List Ax):=
 Av (λs:Int × Int × List Ax=>Q4 s.1 s.2.1 s.2.2) (a1,0,a0)
def Q1(v1 v2:Int)(v3:List Bh):Option ((Int × Int × List Bh) ⊕ Option (Int × List Bh)):=
 if(decide (v2<(v3.length:Int)))then
  (An v3 v2).bind λy4=>
  some (.inl ((IntKind.i64.wrap ((IntKind.i64.wrap ((IntKind.i64.wrap (v1+1))+1))+1)),(IntKind.i64.wrap (v2+1)),(((v3.set (v2).toNat {y4 with al:=v1}).set (v2).toNat {{y4 with al:=v1}with bk:=((Int.tmod (IntKind.i64.wrap (v1+1)) 3)==0)}).set (v2).toNat {{{y4 with al:=v1}with bk:=((Int.tmod (IntKind.i64.wrap (v1+1)) 3)==0)}with af:=(IntKind.i64.wrap ((IntKind.i64.wrap (v1+1))+1))})))
 else
  some (.inr (some (v1,v3)))
def jC(a0:List Bh)(a1:Int):Option (Int × List Bh):=
 Av (λs:Int × Int × List Bh=>Q1 s.1 s.2.1 s.2.2) (a1,0,a0)
def QB(v1 v2:Int)(v3:List Aj):Option ((Int × Int × List Aj) ⊕ Option (Int × List Aj)):=
 if(decide (v2<(v3.length:Int)))then
  (An v3 v2).bind λy4=>
  (iS ({y4 with aq:=v1}.aj) (IntKind.i64.wrap (v1+1))).bind λv5=>
  (iV ({{y4 with aq:=v1}with aj:=v5.2}.ae) v5.1).bind λv6=>
  (jC ({{{y4 with aq:=v1}with aj:=v5.2}with ae:=v6.2}.ao) v6.1).bind λv7=>
  some (.inl (v7.1,(IntKind.i64.wrap (v2+1)),((((v3.set (v2).toNat {y4 with aq:=v1}).set (v2).toNat {{y4 with aq:=v1}with aj:=v5.2}).set (v2).toNat {{{y4 with aq:=v1}with aj:=v5.2}with ae:=v6.2}).set (v2).toNat {{{{y4 with aq:=v1}with aj:=v5.2}with ae:=v6.2}with ao:=v7.2})))
 else
  some (.inr (some (v1,v3)))
def gY(a0:List Aj)(a1:Int):Option (Int × List Aj):=
 Av (λs:Int × Int × List Aj=>QB s.1 s.2.1 s.2.2) (a1,0,a0)
def QD(v1 v2:Int)(v3:List AM):Option ((Int × Int × List AM) ⊕ Option (Int × List AM)):=
 if(decide (v2<(v3.length:Int)))then
  (An v3 v2).bind λy4=>
  (UD ({y4 with al:=v1}.ak) (IntKind.i64.wrap (v1+1))).bind λv5=>
  (XZ ({{y4 with al:=v1}with ak:=v5.2}.ab) v5.1).bind λv6=>
  some (.inl (v6.1,(IntKind.i64.wrap (v2+1)),(((v3.set (v2).toNat {y4 with al:=v1}).set (v2).toNat {{y4 with al:=v1}with ak:=v5.2}).set (v2).toNat {{{y4 with al:=v1}with ak:=v5.2}with ab:=v6.2})))
 else
  some (.inr (some (v1,v3)))
def iE(a0:List AM)(a1:Int):Option (Int × List AM):=
 Av (λs:Int × Int × List AM=>QD s.1 s.2.1 s.2.2) (a1,0,a0)
def U6(a0:Az)(a1:Int):Option (Int × Az):=
 (UD a0.az a1).bind λv1=>
 (gY a0.ax v1.1).bind λv2=>
 (iE a0.ar v2.1).bind λv3=>
 some (v3.1,(⟨v1.2,v2.2,v3.2⟩:Az))
def QI(a0:List (Ag))(v1 v2:Int):Option ((Int × Int) ⊕ Option (Int)):=
 if(decide (v2<(a0.length:Int)))then
  (An a0 v2).bind λy3=>
  (Ho v1).bind λv4=>
  if(y3 !=v4)then
   some (.inr (some (-1)))
  else
   some (.inl ((IntKind.i64.wrap (v1+1)),(IntKind.i64.wrap (v2+1))))
 else
  some (.inr (some v1))
def UC(a0:List (Ag))(a1:Int):Option (Int):=
 Av (λs:Int × Int=>QI a0 s.1 s.2) (a1,0)
def QN(a0:List BE)(v1 v2:Int):Option ((Int × Int) ⊕ Option (Int)):=
 if(decide (v2<(a0.length:Int)))then
  (An a0 v2).bind λy3=>
  if(y3.af !=v1)then
   some (.inr (some (-1)))
  else
   (Ho (IntKind.i64.wrap (v1+1))).bind λv4=>
   if(y3.bg !=v4)then
    some (.inr (some (-1)))
   else
    if(y3.bf !=((Int.tmod (IntKind.i64.wrap ((IntKind.i64.wrap (v1+1))+1)) 3)==0))then
     some (.inr (some (-1)))
    else
     some (.inl ((IntKind.i64.wrap ((IntKind.i64.wrap ((IntKind.i64.wrap (v1+1))+1))+1)),(IntKind.i64.wrap (v2+1))))
 else
  some (.inr (some v1))
def iK(a0:List BE)(a1:Int):Option (Int):=
 Av (λs:Int × Int=>QN a0 s.1 s.2) (a1,0)
def Q6(a0:List Ai)(v1 v2:Int):Option ((Int × Int) ⊕ Option (Int)):=
 if(decide (v2<(a0.length:Int)))then
  (An a0 v2).bind λy3=>
  (Ho v1).bind λv4=>
  if(y3.ah !=v4)then
   some (.inr (some (-1)))
  else
   (iK y3.aw (IntKind.i64.wrap (v1+1))).bind λv5=>
   if(decide (v5<0))then
    some (.inr (some (-1)))
   else
    some (.inl (v5,(IntKind.i64.wrap (v2+1))))
 else
  some (.inr (some v1))
def iY(a0:List Ai)(a1:Int):Option (Int):=
 Av (λs:Int × Int=>Q6 a0 s.1 s.2) (a1,0)
def QA(a0:List Am)(v1 v2:Int):Option ((Int × Int) ⊕ Option (Int)):=
 if(decide (v2<(a0.length:Int)))then
  (An a0 v2).bind λy3=>
  (Ho v1).bind λv4=>
  if(y3.ah !=v4)then
   some (.inr (some (-1)))
  else
   (Ho (IntKind.i64.wrap (v1+1))).bind λv5=>
   if(y3.bg !=v5)then
    some (.inr (some (-1)))
   else
    if(y3.bf !=((Int.tmod (IntKind.i64.wrap ((IntKind.i64.wrap (v1+1))+1)) 3)==0))then
     some (.inr (some (-1)))
    else
     some (.inl ((IntKind.i64.wrap ((IntKind.i64.wrap ((IntKind.i64.wrap (v1+1))+1))+1)),(IntKind.i64.wrap (v2+1))))
 else
  some (.inr (some v1))
def X5(a0:List Am)(a1:Int):Option (Int):=
 Av (λs:Int × Int=>QA a0 s.1 s.2) (a1,0)
def Q0(a0:List Ax)(v1 v2:Int):Option ((Int × Int) ⊕ Option (Int)):=
 if(decide (v2<(a0.length:Int)))then
  (An a0 v2).bind λy3=>
  if(y3.al !=v1)then
   some (.inr (some (-1)))
  else
   if(y3.af !=(IntKind.i64.wrap (v1+1)))then
    some (.inr (some (-1)))
   else
    if(y3.bq !=(IntKind.i64.wrap ((IntKind.i64.wrap (v1+1))+1)))then
     some (.inr (some (-1)))
    else
     (UC y3.ak (IntKind.i64.wrap ((IntKind.i64.wrap ((IntKind.i64.wrap (v1+1))+1))+1))).bind λv4=>
     if(decide (v4<0))then
      some (.inr (some (-1)))
     else
      (X5 y3.ab v4).bind λv5=>
      if(decide (v5<0))then
       some (.inr (some (-1)))
      else
       some (.inl (v5,(IntKind.i64.wrap (v2+1))))
 else
  some (.inr (some v1))
def iU(a0:List Ax)(a1:Int):Option (Int):=
 Av (λs:Int × Int=>Q0 a0 s.1 s.2) (a1,0)
def QY(a0:List Bh)(v1 v2:Int):Option ((Int × Int) ⊕ Option (Int)):=
 if(decide (v2<(a0.length:Int)))then
  (An a0 v2).bind λy3=>
  if(y3.al !=v1)then
   some (.inr (some (-1)))
  else
   if(y3.bk !=((Int.tmod (IntKind.i64.wrap (v1+1)) 3)==0))then
    some (.inr (some (-1)))
   else
    if(y3.af !=(IntKind.i64.wrap ((IntKind.i64.wrap (v1+1))+1)))then
     some (.inr (some (-1)))
    else
     some (.inl ((IntKind.i64.wrap ((IntKind.i64.wrap ((IntKind.i64.wrap (v1+1))+1))+1)),(IntKind.i64.wrap (v2+1))))
 else
  some (.inr (some v1))
def iZ(a0:List Bh)(a1:Int):Option (Int):=
 Av (λs:Int × Int=>QY a0 s.1 s.2) (a1,0)
def QC(a0:List Aj)(v1 v2:Int):Option ((Int × Int) ⊕ Option (Int)):=
 if(decide (v2<(a0.length:Int)))then
  (An a0 v2).bind λy3=>
  if(y3.aq !=v1)then
   some (.inr (some (-1)))
  else
   (iY y3.aj (IntKind.i64.wrap (v1+1))).bind λv4=>
   if(decide (v4<0))then
    some (.inr (some (-1)))
   else
    (iU y3.ae v4).bind λv5=>
    if(decide (v5<0))then
     some (.inr (some (-1)))
    else
     (iZ y3.ao v5).bind λv6=>
     if(decide (v6<0))then
      some (.inr (some (-1)))
     else
      some (.inl (v6,(IntKind.i64.wrap (v2+1))))
 else
  some (.inr (some v1))
def hY(a0:List Aj)(a1:Int):Option (Int):=
 Av (λs:Int × Int=>QC a0 s.1 s.2) (a1,0)
def QE(a0:List AM)(v1 v2:Int):Option ((Int × Int) ⊕ Option (Int)):=
 if(decide (v2<(a0.length:Int)))then
  (An a0 v2).bind λy3=>
  if(y3.al !=v1)then
   some (.inr (some (-1)))
  else
   (UC y3.ak (IntKind.i64.wrap (v1+1))).bind λv4=>
   if(decide (v4<0))then
    some (.inr (some (-1)))
   else
    (X5 y3.ab v4).bind λv5=>
    if(decide (v5<0))then
     some (.inr (some (-1)))
    else
     some (.inl (v5,(IntKind.i64.wrap (v2+1))))
 else
  some (.inr (some v1))
def iC(a0:List AM)(a1:Int):Option (Int):=
 Av (λs:Int × Int=>QE a0 s.1 s.2) (a1,0)
def U7(a0:Az)(a1:Int):Option (Int):=
 (UC a0.az a1).bind λv1=>
 if(decide (v1<0))then
  some (-1)
 else
  (hY a0.ax v1).bind λv2=>
  if(decide (v2<0))then
   some (-1)
  else
   (iC a0.ar v2).bind λv3=>
   if(decide (v3<0))then
    some (-1)
   else
    some v3
def XE(a0:Az)(a1:Ea):Option (Bool):=
 (YT a0 1048576).bind λv1=>
 if(decide (v1<0))then
  some true
 else
  (O6 a0).bind λv2=>
  (UL a1).bind λv3=>
  (Yk v2 v3).bind λv4=>
  (O6 a0).bind λv5=>
  (UL a1).bind λv6=>
  (U3 v5 v6).bind λv7=>
  (O5 v7.1 v4.1).bind λv8=>
  if((!v8)||(v7.2 !=v4.2))then
   some false
  else
   (O6 a0).bind λv9=>
   (O5 v5 v9).bind λv10=>
   if(!v10)then
    some false
   else
    (U6 v5 1).bind λv11=>
    if(decide (v11.1<0))then
     some false
    else
     (O5 v7.1 v4.1).bind λv12=>
     if((!v12)||(v7.2 !=v4.2))then
      some false
     else
      (U6 v7.1 1).bind λv13=>
      (U7 v13.2 1).bind λv14=>
      if(decide (v14<0))then
       some false
      else
       if(v14 !=v13.1)then
        some false
       else
        (O6 a0).bind λv15=>
        (UL a1).bind λv16=>
        (U3 v15 v16).bind λv17=>
        (O5 v17.1 v4.1).bind λv18=>
        if((!v18)||(v17.2 !=v4.2))then
         some false
        else
         (U7 v13.2 1).bind λv19=>
         if(decide (v19<0))then
          some false
         else
          if(v19 !=v13.1)then
           some false
          else
           some true
def zhf:FS:=Ey 302 [.v .s, .v (.i .u8)] (.v (.i .i64)) (λx=>Xw x.1 x.2.1) λx r _ h=>zhe x.1 x.2.1 r h
def tV:FS:=Ey 154 [.v (.l (.st 4))] (.v (.l (.st 4))) (λx=>Rb x.1) λx r _ h=>zpx x.1 r h
def zji:FS:=Ey 172 [.v (.l (.i .i64))] (.v (.l (.i .i64))) (λx=>Xu x.1) λx r _ h=>zjc x.1 r h
def tK:FS:=Ey 229 [.v (.l .s)] (.v (.l .s)) (λx=>Qr x.1) λx r _ h=>zg0 x.1 r h
def tL:FS:=Ey 228 [.v (.l .s)] (.tu (.cons (.tu .nil) (.cons (.v (.l .s)) .nil))) (λx=>Qt x.1) λx r _ h=>zia x.1 r h
def zfK:FS:=Ey 252 [.v (.l (.st 1)), .v (.i .i64), .v (.l (.st 1))] (.v (.l (.st 1))) (λx=>H4 x.1 x.2.1 x.2.2.1) λx r hp h=>zT (t:=48) (it:=3) (el:=108) (K:=5) (l:=[.flat, .flat, .flat, .row 9 1 (Ay.of [.flat]), .row 137 3 (Ay.of [.flat, .flat, .flat])]) (by kernel_rfl) (λ_=>by kernel_rfl) zBZ h
def zfP:FS:=Ey 281 [.v (.l (.st 1)), .v (.i .i64), .v (.i .i64)] (.v (.l (.st 1))) (λx=>VD x.1 x.2.1 x.2.2.1) λx r hp h=>zy9 (t:=48) (it:=3) (el:=108) (K:=5) (l:=[.flat, .flat, .flat, .row 9 1 (Ay.of [.flat]), .row 137 3 (Ay.of [.flat, .flat, .flat])]) (by kernel_rfl) (λ_=>by kernel_rfl) zB2 h
def zfA:FS:=Ey 282 [.v (.l (.st 2)), .v (.i .i64), .v (.l (.st 2))] (.v (.l (.st 2))) (λx=>H4 x.1 x.2.1 x.2.2.1) λx r hp h=>zEB (t:=49) (it:=3) (el:=53) (K:=3) (by kernel_rfl) (λ_=>by kernel_rfl) zBX h
def zfz:FS:=Ey 306 [.v (.l (.st 4)), .v (.i .i64), .v (.l (.st 4))] (.v (.l (.st 4))) (λx=>H4 x.1 x.2.1 x.2.2.1) λx r hp h=>zT (t:=47) (it:=3) (el:=146) (K:=2) (l:=[.flat, .row 198 3 (Ay.of [.flat, .flat, .flat])]) (by kernel_rfl) (λ_=>by kernel_rfl) zBq h
def jE:FS:=Ak 71 [.v (.l .s), .v (.i .i64)] (.v (.i .i64)) (λx=>Q8 x.1 x.2.1) [] [.sp [.i .i64, .i .i64]]
def zwi:FS:=Ak 310 [.v (.st 3), .v (.i .i64)] (.v (.i .i64)) (λx=>Ze x.1 x.2.1) [] []
def zt0:FS:=Ak 287 [.v (.l (.st 3)), .v (.i .i64)] (.v (.i .i64)) (λx=>kA x.1 x.2.1) [zwi] [.sp [.i .i64, .i .i64]]
def ztr:FS:=Ak 253 [.v (.st 4), .v (.i .i64)] (.v (.i .i64)) (λx=>YY x.1 x.2.1) [zt0] []
def zsg:FS:=Ak 199 [.v (.l (.st 4)), .v (.i .i64)] (.v (.i .i64)) (λx=>jF x.1 x.2.1) [ztr] [.sp [.i .i64, .i .i64]]
def zr9:FS:=Ak 255 [.v (.st 0), .v (.i .i64)] (.v (.i .i64)) (λx=>YM x.1 x.2.1) [] []
def uD:FS:=Ak 202 [.v (.l (.st 0)), .v (.i .i64)] (.v (.i .i64)) (λx=>Yl x.1 x.2.1) [zr9] [.sp [.i .i64, .i .i64]]
def ztO:FS:=Ak 254 [.v (.st 1), .v (.i .i64)] (.v (.i .i64)) (λx=>Y0 x.1 x.2.1) [jE,uD] []
def zr7:FS:=Ak 200 [.v (.l (.st 1)), .v (.i .i64)] (.v (.i .i64)) (λx=>jG x.1 x.2.1) [ztO] [.sp [.i .i64, .i .i64]]
def zsa:FS:=Ak 201 [.v (.l (.st 2)), .v (.i .i64)] (.v (.i .i64)) (λx=>YI x.1 x.2.1) [] []
def zsf:FS:=Ak 134 [.v (.st 5), .v (.i .i64)] (.v (.i .i64)) (λx=>YB x.1 x.2.1) [zsg,zr7,zsa] []
def zq1:FS:=Ak 72 [.v (.l (.st 5)), .v (.i .i64)] (.v (.i .i64)) (λx=>iM x.1 x.2.1) [zsf] [.sp [.i .i64, .i .i64]]
def zr2:FS:=Ak 135 [.v (.st 6), .v (.i .i64)] (.v (.i .i64)) (λx=>YA x.1 x.2.1) [jE,uD] []
def zqu:FS:=Ak 73 [.v (.l (.st 6)), .v (.i .i64)] (.v (.i .i64)) (λx=>jX x.1 x.2.1) [zr2] [.sp [.i .i64, .i .i64]]
def ztV:FS:=Ak 25 [.v (.st 7), .v (.i .i64)] (.v (.i .i64)) (λx=>YT x.1 x.2.1) [jE,zq1,zqu] []
def jA:FS:=Ak 74 [.v (.l .s)] (.v (.l .s)) (λx=>Rf x.1) [] [.sp [.i .i64, .l .s]]
def zvl:FS:=Ak 311 [.v (.st 3)] (.v (.st 3)) (λx=>kW x.1) [] []
def zun:FS:=Ak 288 [.v (.l (.st 3))] (.v (.l (.st 3))) (λx=>kO x.1) [zvl] [.sp [.i .i64, .l (.st 3)]]
def zub:FS:=Ak 256 [.v (.st 4)] (.v (.st 4)) (λx=>Y7 x.1) [zun] []
def zsh:FS:=Ak 203 [.v (.l (.st 4))] (.v (.l (.st 4))) (λx=>jH x.1) [zub] [.sp [.i .i64, .l (.st 4)]]
def zrO:FS:=Ak 259 [.v (.st 0)] (.v (.st 0)) (λx=>jJ x.1) [] []
def uC:FS:=Ak 206 [.v (.l (.st 0))] (.v (.l (.st 0))) (λx=>Ym x.1) [zrO] [.sp [.i .i64, .l (.st 0)]]
def zuy:FS:=Ak 257 [.v (.st 1)] (.v (.st 1)) (λx=>YR x.1) [jA,uC] []
def zsr:FS:=Ak 204 [.v (.l (.st 1))] (.v (.l (.st 1))) (λx=>jQ x.1) [zuy] [.sp [.i .i64, .l (.st 1)]]
def ztu:FS:=Ak 258 [.v (.st 2)] (.v (.st 2)) (λx=>kL x.1) [] []
def zrV:FS:=Ak 205 [.v (.l (.st 2))] (.v (.l (.st 2))) (λx=>jL x.1) [ztu] [.sp [.i .i64, .l (.st 2)]]
def zrW:FS:=Ak 136 [.v (.st 5)] (.v (.st 5)) (λx=>Yw x.1) [zsh,zsr,zrV] []
def zqD:FS:=Ak 75 [.v (.l (.st 5))] (.v (.l (.st 5))) (λx=>jY x.1) [zrW] [.sp [.i .i64, .l (.st 5)]]
def zr4:FS:=Ak 137 [.v (.st 6)] (.v (.st 6)) (λx=>YL x.1) [jA,uC] []
def zqn:FS:=Ak 76 [.v (.l (.st 6))] (.v (.l (.st 6))) (λx=>iO x.1) [zr4] [.sp [.i .i64, .l (.st 6)]]
def zuA:FS:=Ak 26 [.v (.st 7)] (.v (.st 7)) (λx=>O6 x.1) [jA,zqD,zqn] []
def zpN:FS:=Ak 27 [.v (.st 8)] (.v (.st 8)) (λx=>UL x.1) [] []
def RQ:FS:=Ak 165 [.v (.i .i64), .v (.i .i64), .v (.i .i64)] (.v .b) (λx=>IG x.1 x.2.1 x.2.2.1) [] []
def kG:FS:=Ak 161 [.v (.i .i64)] (.v .b) (λx=>Pa x.1) [RQ] []
def uS:FS:=Ak 242 [.v (.i .i64)] (.v .b) (λx=>M9 x.1) [RQ] []
def uK:FS:=Ak 226 [.v .s, .v .s] (.v .b) (λx=>U0 x.1 x.2.1) [] [.sp [.i .i64], .sp [.b, .i .i64]]
def Zb:FS:=Ak 166 [.v .s] (.v .b) (λx=>Pd x.1) [RQ,uK] []
def zvX:FS:=Ak 290 [.v .s] (.v .b) (λx=>Za x.1) [uK] []
def uJ:FS:=Ak 266 [.v .s, .v .s, .v .b] (.v .b) (λx=>UW x.1 x.2.1 x.2.2.1) [Zb,zvX] []
def zts:FS:=Ak 222 [.v (.st 4)] (.v .b) (λx=>YU x.1) [Zb,RQ,uS,uJ] [.sp [.i .i64]]
def uX:FS:=Ak 162 [.v (.l (.st 4))] (.v .b) (λx=>Va x.1) [zts] [.sp [.i .i64]]
def zoU:FS:=Ak 103 [.v (.st 1)] (.v (.st 9)) (λx=>XY x.1) [] []
def zt5:FS:=Ak 243 [.v (.l .s)] (.v .b) (λx=>YZ x.1) [Zb] [.sp [.i .i64]]
def zqN:FS:=Ak 244 [.v (.l (.st 0))] (.v .b) (λx=>Yj x.1) [uJ] [.sp [.i .i64]]
def kC:FS:=Ak 190 [.v (.st 9)] (.v .b) (λx=>LI x.1) [RQ,uS,zt5,zqN] [.pt]
def zqd:FS:=Ak 267 [.v (.l (.st 0)), .v .s] (.v .b) (λx=>U4 x.1 x.2.1) [] [.sp [.i .i64]]
def zuu:FS:=Ak 268 [.v (.l .s), .v .s] (.v .b) (λx=>Y1 x.1 x.2.1) [] [.sp [.i .i64]]
def uB:FS:=Ak 223 [.v (.st 1), .v (.l .s), .v (.l (.st 0))] (.v .b) (λx=>RA x.1 x.2.1 x.2.2.1) [zqd,zuu] [.sp [.i .i64], .sp [.i .i64]]
def vT:FS:=Ak 225 [.v (.l (.st 4)), .v .s] (.v (.i .i64)) (λx=>Vk x.1 x.2.1) [] [.sp [.i .i64]]
def kF:FS:=Ak 164 [.v (.l (.st 4)), .v .s] (.v (.i .i64)) (λx=>O7 x.1 x.2.1) [vT] []
def Vc:FS:=Ak 129 [.v (.l .s)] (.v (.l .s)) (λx=>IF x.1) [] []
def uP:FS:=Ak 151 [.v (.l .s), .v .s] (.v (.l .s)) (λx=>O4 x.1 x.2.1) [Vc] [.sp [.i .i64]]
def uL:FS:=Ak 224 [.v (.st 5), .v (.l (.st 0))] (.v .b) (λx=>UZ x.1 x.2.1) [uP,vT] [.sp [.l .s, .i .i64], .sp [.i .i64, .l (.st 0)], .sp [.l .s, .i .i64]]
def zrQ:FS:=Ak 163 [.v (.st 5)] (.v .b) (λx=>Ry x.1) [uL,zoU,kC,kF,uB] [.sp [.i .i64], .sp [.i .i64], .sp [.i .i64]]
def iT:FS:=Ak 68 [.v (.st 5), .v (.i .i64)] (.tu (.cons (.v (.st 1)) (.cons (.v .b) .nil))) (λx=>J9 x.1 x.2.1) [] [.sp [.i .i64]]
def jM:FS:=Ak 98 [.v (.st 5)] (.v .b) (λx=>LJ x.1) [kG,uX,zrQ,RQ,iT,kF] [.sp [.i .i64], .sp [.i .i64]]
def zrP:FS:=Ak 99 [.v (.l .s)] (.v .b) (λx=>YC x.1) [Zb] [.sp [.i .i64]]
def zqR:FS:=Ak 167 [.v (.st 6)] (.v .b) (λx=>Yp x.1) [kC] []
def zpL:FS:=Ak 100 [.v (.l (.st 6))] (.v .b) (λx=>Yr x.1) [zqR] [.sp [.i .i64], .sp [.i .i64]]
def zsk:FS:=Ak 41 [.v (.st 7)] (.v .b) (λx=>Yy x.1) [zrP,zpL,jM] [.sp [.i .i64]]
def zwc:FS:=Ak 118 [.v (.st 7), .v (.i .i64)] (.v (.i .i64)) (λx=>Y9 x.1 x.2.1) [] [.sp [.i .i64]]
def zqL:FS:=Ak 133 [.v (.l .s), .v (.l (.st 0))] (.v (.l .s)) (λx=>YQ x.1 x.2.1) [uP] [.sp [.l .s, .i .i64], .sp [.l .s, .i .i64]]
def uO:FS:=Ak 198 [.v (.l .s), .v .s] (.v (.i .i64)) (λx=>UY x.1 x.2.1) [] [.sp [.i .i64]]
def zuY:FS:=Ak 197 [.v (.l (.i .i64)), .v (.i .i64)] (.v (.l (.i .i64))) (λx=>kS x.1 x.2.1) [] [.sp [.i .i64]]
def zrC:FS:=Ak 132 [.v (.l .s), .v (.l .s)] (.v (.l (.i .i64))) (λx=>jU x.1 x.2.1) [uO,zuY] [.sp [.l (.i .i64), .i .i64]]
def zvH:FS:=Ak 67 [.v (.l .s), .v (.st 6)] (.v (.l (.i .i64))) (λx=>Ve x.1 x.2.1) [zqL,zrC] []
def tW:FS:=Ak 69 [.v (.st 5), .v (.i .i64)] (.tu (.cons (.v (.st 2)) (.cons (.v .b) .nil))) (λx=>UM x.1 x.2.1) [] [.sp [.i .i64]]
def zvG:FS:=Ak 186 [.v (.l (.i .i64)), .v (.i .i64)] (.v .b) (λx=>Vi x.1 x.2.1) [] [.sp [.i .i64]]
def kB:FS:=Ak 189 [.v (.i .i64), .v (.i .i64)] (.v (.i .i64)) (λx=>J7 x.1 x.2.1) [] []
def zn3:FS:=Ak 187 [.v (.st 5), .v (.i .i64)] (.tu (.cons (.v (.i .i64)) (.cons (.v .b) .nil))) (λx=>X7 x.1 x.2.1) [jM,kG,kB] []
def zq5:FS:=Ak 188 [.v (.l .s), .v (.l .s), .v (.l (.st 0)), .v (.i .i64)] (.tu (.cons (.v (.l .s)) (.cons (.v (.l (.st 0))) .nil))) (λx=>jS x.1 x.2.1 x.2.2.1 x.2.2.2.1) [uO] [.sp [.l .s, .i .i64], .inl, .sp [.l (.st 0), .i .i64], .inl]
def ztb:FS:=Ak 119 [.v (.st 7), .v (.st 6), .v (.st 8)] (.tu (.cons (.v (.st 9)) (.cons (.v (.i .i64)) (.cons (.v .b) .nil)))) (λx=>Y6 x.1 x.2.1 x.2.2.1) [zvH,tW,zvG,zn3,zq5,kG,iT,kB] [.sp [.i .i64, .i .i64]]
def u6:FS:=Ak 195 [.v (.l (.st 4))] (.v (.l (.st 4))) (λx=>Vj x.1) [] [.sp [.l (.st 4), .i .i64]]
def zo4:FS:=Ak 196 [.v (.st 1)] (.v (.st 1)) (λx=>X2 x.1) [Vc] []
def uU:FS:=Ak 131 [.v (.st 5)] (.v (.st 5)) (λx=>U9 x.1) [u6,zo4] [.sp [.i .i64, .l (.st 1)]]
def zoR:FS:=Ak 245 [.v (.l (.st 1)), .v (.st 1)] (.v (.l (.st 1))) (λx=>XW x.1 x.2.1) [] [.sp [.i .i64]]
def zsd:FS:=Ak 246 [.v (.st 5), .v (.l .s), .v (.l (.st 0))] (.v .b) (λx=>YO x.1 x.2.1 x.2.2.1) [uL,uB] [.sp [.i .i64]]
def zvu:FS:=Ak 247 [.v (.l (.st 4)), .v (.l (.st 0)), .v (.i .i64)] (.tu (.cons (.v (.l (.st 4))) (.cons (.v .b) .nil))) (λx=>Zf x.1 x.2.1 x.2.2.1) [u6,uX,kF] [.sp [.i .i64, .l (.st 4)], .inl, .sp [.i .i64]]
def zr1:FS:=Ak 248 [.v (.l (.st 1)), .v (.i .i64)] (.v (.l (.st 1))) (λx=>U1 x.1 x.2.1) [] [.sp [.l (.st 1), .i .i64], .inl]
def zox:FS:=Ak 249 [.v (.l (.st 2)), .v (.st 2)] (.v (.l (.st 2))) (λx=>UT x.1 x.2.1) [] [.sp [.i .i64]]
def zqc:FS:=Ak 191 [.v (.st 5), .v (.st 9)] (.tu (.cons (.v (.st 5)) (.cons (.v .b) .nil))) (λx=>Yc x.1 x.2.1) [uU,iT,tW,Vc,zoR,zsd,zvu,kB,zr1,zox] [.inl]
def zrs:FS:=Ak 120 [.v (.st 5), .v (.st 9)] (.tu (.cons (.v (.st 5)) (.cons (.v .b) .nil))) (λx=>Yi x.1 x.2.1) [jM,kC,zqc] []
def zrY:FS:=Ak 130 [.v (.l (.st 6))] (.v (.l (.st 6))) (λx=>jO x.1) [Vc] [.sp [.l (.st 6), .i .i64]]
def zuH:FS:=Ak 66 [.v (.st 7)] (.v (.st 7)) (λx=>Y3 x.1) [Vc,zrY,uU] [.sp [.i .i64, .l (.st 5)]]
def zrT:FS:=Ak 57 [.v (.st 7), .v (.st 8)] (.tu (.cons (.v (.st 7)) (.cons (.v .b) .nil))) (λx=>YG x.1 x.2.1) [zwc,ztb,zrs,zuH] []
def zrg:FS:=Ak 17 [.v (.st 7), .v (.st 8)] (.tu (.cons (.v (.st 7)) (.cons (.v .b) .nil))) (λx=>Yk x.1 x.2.1) [zsk,zrT] []
def O9:FS:=Ak 113 [.v (.i .i64), .v (.i .i64), .v (.i .i64)] (.v .b) (λx=>LH x.1 x.2.1 x.2.2.1) [] []
def zlJ:FS:=Ak 271 [.v (.i .u8)] (.v .b) (λx=>gI x.1) [] []
def zmL:FS:=Ak 272 [.v .s, .v (.i .u8)] (.v (.i .i64)) (λx=>gS x.1 x.2.1) [zhf] []
def uG:FS:=Ak 230 [.v .s, .v .s] (.v .b) (λx=>U5 x.1 x.2.1) [zlJ,zmL] [.sp [.i .i64]]
def zso:FS:=Ak 174 [.v .s] (.v .b) (λx=>YH x.1) [O9,uG] []
def Yv:FS:=Ak 107 [.v (.l .s)] (.v .b) (λx=>M4 x.1) [zso] [.sp [.i .i64]]
def zrB:FS:=Ak 48 [.v (.l .s)] (.v .b) (λx=>Yq x.1) [Yv] []
def zeQ:FS:=Ey 108 [.v (.l (.st 5)), .fn [.st 5] .b] (.v (.i .i64)) (λx=>Gu x.1 (λy=>x.2.1.φ (y,()))) λx r hp h=>G0 (f:=108) (t:=SL 4) (by kernel_rfl) (by kernel_rfl) (aG (av:=(B1 C5.av (.st 5))) (cn:=4) (λ_=>⟨_,rfl,rfl⟩) h (λy b hb=>hp.2.1 (y,()) b hb))
def zee:FS:=Ey 49 [.v (.l (.st 5)), .fn [.st 5] .b] (.v .b) (λx=>E0 x.1 (λy=>x.2.1.φ (y,()))) λx r hp h=>G0 (f:=49) (t:=SN 108) (by kernel_rfl) (by kernel_rfl) (Z7 h λr hr=>zeQ.ok x r hp hr)
def uT:FS:=Ak 109 [.v (.i .i64)] (.v .b) (λx=>RN x.1) [O9] []
def uR:FS:=Ak 231 [.v (.i .i64)] (.v .b) (λx=>M8 x.1) [O9] []
def zsb:FS:=Ak 273 [.v .s] (.v .b) (λx=>YF x.1) [uG] []
def uE:FS:=Ak 232 [.v .s, .v .b] (.v .b) (λx=>U2 x.1 x.2.1) [zsb] []
def zt9:FS:=Ak 175 [.v (.st 4)] (.v .b) (λx=>YV x.1) [O9,uR,uE] [.sp [.i .i64]]
def tU:FS:=Ak 110 [.v (.l (.st 4))] (.v .b) (λx=>UO x.1) [Yv,zt9] [.sp [.i .i64, .l .s]]
def tX:FS:=Ak 177 [.v (.st 1)] (.v (.st 9)) (λx=>Rw x.1) [] []
def kP:FS:=Ak 114 [.v (.i .i64)] (.v .b) (λx=>Na x.1) [O9] []
def tT:FS:=Ak 227 [.v (.l (.st 0))] (.v (.l .s)) (λx=>UN x.1) [] [.sp [.i .i64, .l .s]]
def tJ:FS:=Ey 236 [.v (.l (.st 0)), .fn [.st 0] .b] (.v (.i .i64)) (λx=>Gu x.1 (λy=>x.2.1.φ (y,()))) λx r hp h=>G0 (f:=236) (t:=SL 3) (by kernel_rfl) (by kernel_rfl) (aG (av:=(B1 C5.av (.st 0))) (cn:=3) (λ_=>⟨_,rfl,rfl⟩) h (λy b hb=>hp.2.1 (y,()) b hb))
def fT:FS:=Ey 181 [.v (.l (.st 0)), .fn [.st 0] .b] (.v .b) (λx=>E0 x.1 (λy=>x.2.1.φ (y,()))) λx r hp h=>G0 (f:=181) (t:=SN 236) (by kernel_rfl) (by kernel_rfl) (Z7 h λr hr=>tJ.ok x r hp hr)
def zm5:FS:=Ak 274 [.v (.st 0)] (.v .b) (λx=>XM x.1) [uE] []
def zmj:FS:=HY zm5 λ_=>by kernel_rfl
def zor:FS:=Ak 233 [.v (.l (.st 0))] (.v .b) (λx=>Ya x.1) [tT,Yv,fT,zmj] []
def uI:FS:=Ak 176 [.v (.st 9)] (.v .b) (λx=>UX x.1) [kP,uR,O9,Yv,zor] [.pt]
def zfa:FS:=Ey 234 [.v (.l (.st 1)), .fn [.st 1] .b] (.v (.i .i64)) (λx=>Gu x.1 (λy=>x.2.1.φ (y,()))) λx r hp h=>G0 (f:=234) (t:=SL 5) (by kernel_rfl) (by kernel_rfl) (aG (av:=(B1 C5.av (.st 1))) (cn:=5) (λ_=>⟨_,rfl,rfl⟩) h (λy b hb=>hp.2.1 (y,()) b hb))
def tI:FS:=Ey 178 [.v (.l (.st 1)), .fn [.st 1] .b] (.v .b) (λx=>E0 x.1 (λy=>x.2.1.φ (y,()))) λx r hp h=>G0 (f:=178) (t:=SN 234) (by kernel_rfl) (by kernel_rfl) (Z7 h λr hr=>zfa.ok x r hp hr)
def zcx:FS:=Ak 303 [.v (.l (.st 0)), .v .s, .fn [.st 0, .s] (.i .i64)] (.tu (.cons (.v (.i .i64)) (.cons (.v .b) .nil))) (λx=>fW x.1 x.2.1 (λy0 y1=>x.2.2.1.φ (y0,y1,()))) [] [.sp [.i .i64, .i .i64]]
def zmV:FS:=Ak 278 [.v .s] (.v .b) (λx=>UH x.1) [] []
def tN:FS:=Ak 239 [.v .s, .v .s] (.v (.i .i64)) (λx=>UB x.1 x.2.1) [zmV] []
def znO:FS:=Ak 304 [.v (.st 0), .v .s] (.v (.i .i64)) (λx=>QO x.1 x.2.1) [tN] []
def zmX:FS:=HY znO λ_=>by kernel_rfl
def zpQ:FS:=Ak 276 [.v (.l (.st 0)), .v .s] (.tu (.cons (.v (.i .i64)) (.cons (.v .b) .nil))) (λx=>Rc x.1 x.2.1) [zcx,zmX] []
def zhE:FS:=Ak 305 [.v (.l .s), .v .s] (.v (.i .i64)) (λx=>Xx x.1 x.2.1) [] [.sp [.i .i64]]
def zgx:FS:=Ak 277 [.v (.l .s), .v .s] (.v .b) (λx=>Xv x.1 x.2.1) [zhE] []
def zpG:FS:=Ak 275 [.v (.st 0), .rf (.l (.st 0)), .rf (.l .s)] (.v .b) (λx=>iW x.1 x.2.1 x.2.2.1) [zpQ,zgx] []
def zoS:FS:=HY zpG λ_=>by kernel_rfl
def zrZ:FS:=Ak 235 [.v (.l (.st 0)), .v (.l .s), .v (.l (.st 0))] (.v .b) (λx=>Vd x.1 x.2.1 x.2.2.1) [fT,zoS] []
def vG:FS:=Ak 180 [.v (.st 1), .v (.st 1)] (.v .b) (λx=>RP x.1 x.2.1) [zrZ] []
def zkl:FS:=Ak 179 [.v (.st 1), .rf (.st 1)] (.v .b) (λx=>OQ x.1 x.2.1) [vG] []
def zj7:FS:=HY zkl λ_=>by kernel_rfl
def zcU:FS:=Ak 237 [.v (.l (.st 4)), .v .s, .fn [.st 4, .s] (.i .i64)] (.tu (.cons (.v (.i .i64)) (.cons (.v .b) .nil))) (λx=>Xs x.1 x.2.1 (λy0 y1=>x.2.2.1.φ (y0,y1,()))) [] [.sp [.i .i64, .i .i64]]
def zoV:FS:=Ak 238 [.v (.st 4), .v .s] (.v (.i .i64)) (λx=>O2 x.1 x.2.1) [tN] []
def znJ:FS:=HY zoV λ_=>by kernel_rfl
def jR:FS:=Ak 184 [.v (.l (.st 4)), .v .s] (.tu (.cons (.v (.i .i64)) (.cons (.v .b) .nil))) (λx=>RJ x.1 x.2.1) [zcU,znJ] []
def jT:FS:=Ak 112 [.v (.l (.st 4)), .v .s] (.v (.i .i64)) (λx=>RC x.1 x.2.1) [jR] []
def zku:FS:=Ak 182 [.v (.st 0), .rf (.st 1), .rf (.st 5)] (.v .b) (λx=>OP x.1 x.2.1 x.2.2.1) [jT] []
def zjW:FS:=HY zku λ_=>by kernel_rfl
def tS:FS:=Ak 183 [.v (.st 5), .v (.l (.st 1))] (.v .b) (λx=>UJ x.1 x.2.1) [tL,tK,jR] [.sp [.i .i64, .l .s], .sp [.i .i64, .l .s], .sp [.i .i64, .l .s], .inl]
def zlh:FS:=Ak 111 [.v (.st 5)] (.v .b) (λx=>QG x.1) [tS,tX,uI,tI,zj7,fT,zjW] [.sp [.i .i64]]
def zdf:FS:=Ak 125 [.v (.l (.st 1)), .v (.i .i64), .fn [.st 1, .i .i64] (.i .i64)] (.tu (.cons (.v (.i .i64)) (.cons (.v .b) .nil))) (λx=>Xr x.1 x.2.1 (λy0 y1=>x.2.2.1.φ (y0,y1,()))) [] [.sp [.i .i64, .i .i64]]
def zpM:FS:=Ak 192 [.v (.i .i64)] (.v .b) (λx=>UR x.1) [] []
def tP:FS:=Ak 123 [.v (.i .i64), .v (.i .i64)] (.v (.i .i64)) (λx=>UE x.1 x.2.1) [zpM] []
def zj2:FS:=Ak 126 [.v (.st 1), .v (.i .i64)] (.v (.i .i64)) (λx=>OR x.1 x.2.1) [tP] []
def zjt:FS:=HY zj2 λ_=>by kernel_rfl
def XA:FS:=Ak 62 [.v (.st 5), .v (.i .i64)] (.tu (.cons (.v (.i .i64)) (.cons (.v .b) .nil))) (λx=>KE x.1 x.2.1) [zdf,zjt] []
def zpz:FS:=Ak 51 [.v (.st 5)] (.v .b) (λx=>Rj x.1) [uT,tU,zlh,O9,kP,XA,jT] [.sp [.i .i64], .sp [.i .i64]]
def zoH:FS:=Ak 50 [.v (.st 5)] (.v .b) (λx=>X4 x.1) [zpz] []
def zns:FS:=HY zoH λ_=>by kernel_rfl
def zqg:FS:=Ak 115 [.v (.l .s), .v (.l (.st 0))] (.v .b) (λx=>jW x.1 x.2.1) [uI] []
def zr0:FS:=Ak 52 [.v (.st 6)] (.v .b) (λx=>YD x.1) [kP,zqg] []
def tH:FS:=Ey 94 [.v (.l (.st 6)), .fn [.st 6] .b] (.v (.i .i64)) (λx=>Gu x.1 (λy=>x.2.1.φ (y,()))) λx r hp h=>G0 (f:=94) (t:=SL 3) (by kernel_rfl) (by kernel_rfl) (aG (av:=(B1 C5.av (.st 6))) (cn:=3) (λ_=>⟨_,rfl,rfl⟩) h (λy b hb=>hp.2.1 (y,()) b hb))
def zec:FS:=Ey 53 [.v (.l (.st 6)), .fn [.st 6] .b] (.v .b) (λx=>E0 x.1 (λy=>x.2.1.φ (y,()))) λx r hp h=>G0 (f:=53) (t:=SN 94) (by kernel_rfl) (by kernel_rfl) (Z7 h λr hr=>tH.ok x r hp hr)
def zoB:FS:=Ak 54 [.v (.st 6), .rf (.st 6)] (.v .b) (λx=>gZ x.1 x.2.1) [] []
def zn2:FS:=HY zoB λ_=>by kernel_rfl
def zrv:FS:=Ak 14 [.v (.st 7)] (.v .b) (λx=>Yb x.1) [zrB,zee,zns,zr0,zec,zn2] [.sp [.i .i64]]
def zmk:FS:=Ak 95 [.v (.st 6), .rf (.st 8)] (.v .b) (λx=>gE x.1 x.2.1) [] []
def zlQ:FS:=HY zmk λ_=>by kernel_rfl
def Uy:FS:=Ey 91 [.v (.l .s)] (.v (.l .s)) (λx=>IE x.1) λx r hp h=>G0 (f:=91) (t:=Wi 16 1) (by kernel_rfl) (by kernel_rfl) (mT (bytes:=16) (sz:=1) (av:=(B1 C5.av .s)) (λx=>⟨Np _ x,Ph (by kernel_rfl) x⟩) h)
def zt4:FS:=Ak 170 [.v (.l .s), .v (.l (.st 0))] (.v (.l .s)) (λx=>YX x.1 x.2.1) [Uy,tT,tL,tK] []
def kM:FS:=Ak 171 [.v (.l .s), .v .s] (.v (.i .i64)) (λx=>Vb x.1 x.2.1) [] [.sp [.i .i64, .i .i64], .inl]
def zrS:FS:=Ak 104 [.v (.l .s), .v (.l .s), .v (.l (.st 0))] (.v (.l (.i .i64))) (λx=>YE x.1 x.2.1 x.2.2.1) [zt4,zji,kM] [.sp [.i .i64, .l (.i .i64)]]
def XO:FS:=Ak 46 [.v (.st 7), .v (.st 6)] (.v (.l (.i .i64))) (λx=>M6 x.1 x.2.1) [zrS] []
def zj1:FS:=Ak 194 [.v (.l (.i .i64)), .v (.i .i64)] (.v (.i .i64)) (λx=>gD x.1 x.2.1) [] [.sp [.i .i64]]
def tM:FS:=Ak 128 [.v (.l (.i .i64)), .v (.i .i64)] (.v .b) (λx=>UA x.1 x.2.1) [zj1] []
def zdd:FS:=Ak 121 [.v (.l (.st 2)), .v (.i .i64), .fn [.st 2, .i .i64] (.i .i64)] (.tu (.cons (.v (.i .i64)) (.cons (.v .b) .nil))) (λx=>Xq x.1 x.2.1 (λy0 y1=>x.2.2.1.φ (y0,y1,()))) [] [.sp [.i .i64, .i .i64]]
def zj3:FS:=Ak 122 [.v (.st 2), .v (.i .i64)] (.v (.i .i64)) (λx=>OS x.1 x.2.1) [tP] []
def zjv:FS:=HY zj3 λ_=>by kernel_rfl
def Xy:FS:=Ak 59 [.v (.st 5), .v (.i .i64)] (.tu (.cons (.v (.i .i64)) (.cons (.v .b) .nil))) (λx=>M3 x.1 x.2.1) [zdd,zjv] []
def zt3:FS:=Ak 158 [.v (.i .i64)] (.tu (.cons (.v (.i .i64)) (.cons (.v .b) .nil))) (λx=>jZ x.1) [] []
def zgn:FS:=Ey 265 [.v (.l .s), .fn [.s] .b] (.v (.i .i64)) (λx=>Gu x.1 (λy=>x.2.1.φ (y,()))) λx r hp h=>G0 (f:=265) (t:=o9) (by kernel_rfl) (by kernel_rfl) (zCE (av:=(B1 C5.av .s)) (λ_=>rfl) h (λy b hb=>hp.2.1 (y,()) b hb))
def zgb:FS:=Ey 218 [.v (.l .s), .fn [.s] .b] (.v (.l .s)) (λx=>Pc x.1 (λy=>x.2.1.φ (y,()))) λx r hp h=>G0 (f:=218) (t:=W7 265 1 false (.fld (.idx (.var 5) (.var 4)) 0 1 false) [] (.str (ByteArray.mk #[]))) (by kernel_rfl) (by kernel_rfl) (zzd (av:=(B1 C5.av .s)) (λx=>⟨Np _ x,Ph (by kernel_rfl) x,(λe=>nomatch e),λ_=>rfl⟩) (by decide) (λa b c d j ys x tl hj=>by simp[AV.nth,hj,B1,OI]) (λa b c d j ys x hj=>by simp[AV.nth,hj,B1,OI]) h (λi hi=>zgn.ok x i hp hi) (λy b hb=>hp.2.1 (y,()) b hb))
def zpv:FS:=Ak 219 [.v .s, .rf (.l .s), .rf (.i .i64)] (.v .b) (λx=>Yt x.1 x.2.1 x.2.2.1) [kM] []
def zoZ:FS:=HY zpv λ_=>by kernel_rfl
def zsp:FS:=Ak 159 [.v (.l .s), .v (.l .s), .v (.i .i64)] (.v (.l .s)) (λx=>YJ x.1 x.2.1 x.2.2.1) [Uy,zgb,zoZ] []
def gC:FS:=Ey 157 [.v (.l (.st 0))] (.v (.l (.st 0))) (λx=>LG x.1) λx r hp h=>G0 (f:=157) (t:=Wi 40 3) (by kernel_rfl) (by kernel_rfl) (mT (bytes:=40) (sz:=3) (av:=(B1 C5.av (.st 0))) (λx=>⟨Np _ x,Ph (by kernel_rfl) x⟩) h)
def zeC:FS:=Ey 220 [.v (.l (.st 0)), .fn [.st 0] .b] (.v (.l (.st 0))) (λx=>Pc x.1 (λy=>x.2.1.φ (y,()))) λx r hp h=>G0 (f:=220) (t:=W7 236 3 true (.mk (.cons (.fld (.fld (.idx (.var 5) (.var 4)) 0 3 true) 0 1 false) (.cons (.fld (.fld (.idx (.var 5) (.var 4)) 0 3 true) 1 1 false) (.cons (.fld (.fld (.idx (.var 5) (.var 4)) 0 3 true) 2 1 false) .nil)))) [(.agg (.fld (.idx (.var 5) (.var 4)) 0 3 true) 3)] (.mk (.cons (.str (ByteArray.mk #[])) (.cons (.str (ByteArray.mk #[])) (.cons (.bool false) .nil))))) (by kernel_rfl) (by kernel_rfl) (zzd (av:=(B1 C5.av (.st 0))) (λx=>⟨Np _ x,Ph (by kernel_rfl) x,λ_=>⟨_,rfl⟩,λe=>nomatch e⟩) (by decide) (λa b c d j ys x tl hj=>by simp[AV.nth,hj,B1,OI]) (λa b c d j ys x hj=>by simp[AV.nth,hj,B1,OI]) h (λi hi=>tJ.ok x i hp hi) (λy b hb=>hp.2.1 (y,()) b hb))
end
end Go.Proofs.YtalagilebkaegaaGreat
