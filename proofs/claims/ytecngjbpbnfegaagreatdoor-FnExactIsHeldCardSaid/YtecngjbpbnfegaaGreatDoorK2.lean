/- Parts of a proof, joined: VGa, VG, VH, VI, VJ, VY, VZ, WA, VJa, VK, VL, VM, VN. -/
import Derived.Test.YtecngjbpbnfegaaGreatDoorK1
import Derived.WalkKit
import Derived.WalkLawsBesides
import Derived.Scope
import Derived.WalkSpells
section
namespace Go.Proofs.YtecngjbpbnfegaaGreatDoor
open Go.RowKit
def zdF (w:World) (ety sz:Nat) (v:Value) (x:AV) (top N:List Nat):Prop:=
 ∃xs,x= .sl xs∧(∀y∈xs,y.cells.length=sz)∧0<sz∧
  ((xs= []∧(∃a,v= .slice a 0 0)∧top= []∧N= [])∨
   ∃g cap C,v= .slice (some ⟨g,0,none⟩) xs.length cap∧xs.length≤cap∧cap≤maxLen∧w.heap[g]?=some (.cells C ety (0,0))∧C.size=cap*sz∧top= [g]∧(∀u∈C.toList.take (xs.length*sz),u.oneCell'=true)∧Rd w (C.toList.take (xs.length*sz)) (zaQ xs) N)
theorem zdF.win {w:World} {ety sz:Nat} {q:Option Addr} {n cap:Nat} {x:AV} {top N:List Nat} (h:zdF w ety sz (.slice q n cap) x top N) {k r:Nat} {q':Option Addr} (hk:k≤n) (hq:k<n→ ∃b,q=some ⟨b,0,none⟩∧q'=some ⟨b,k*sz,none⟩∧r=cap-k):
  ∃xs f,x= .sl xs∧xs.length=n∧Rd w [.slice q' (n-k) r] [.sl (xs.drop k)] f∧ ∀b∈f,b∈top∨b∈N:=by
 obtain⟨xs,rfl,h2,h3,⟨rfl,⟨a,hv⟩,rfl,rfl⟩|⟨g,cap',C,hv,h6,h7,h8,h9,rfl,h10,h11⟩⟩:=h
 ·cases hv
  have:k=0:=by omega
  subst this
  exact⟨[], [],rfl,rfl,by simpa using Rd.snil .nil,by simp⟩
 ·cases hv
  refine⟨xs, ?_⟩
  rcases Nat.lt_or_ge k xs.length with hlt|hge
  ·obtain⟨b,hb,rfl,rfl⟩:=hq hlt
   cases hb
   have hCl:C.toList.length=cap*sz:=by simpa using h9
   have hmul:xs.length*sz≤cap*sz:=Nat.mul_le_mul_right _ h6
   have hmk:k*sz≤xs.length*sz:=Nat.mul_le_mul_right _ hk
   obtain⟨g1,k1,k2⟩:=h11.piece (k*sz) ((xs.length-k)*sz)
   have e1:((zaQ xs).drop (k*sz)).take ((xs.length-k)*sz)=zaQ (xs.drop k):=by
    have hf:zaQ xs=zaQ (xs.take k)++zaQ (xs.drop k):=by
     have h0:zaQ (xs.take k++xs.drop k)=zaQ (xs.take k)++zaQ (xs.drop k):=by simp only [zaQ,List.flatMap_append]
     rw [List.take_append_drop]at h0;exact h0
    have hl: ∀ys:List AV,(∀y∈ys,y.cells.length=sz)→(zaQ ys).length=ys.length*sz:=by
     intro ys hy
     induction ys with
     |nil=>simp [zaQ]
     |cons y ys ih=>simp only [zaQ,List.flatMap_cons,List.length_append,List.length_cons]at ih ⊢;rw [hy y (by simp),ih fun z hz=>hy z (by simp [hz]),Nat.add_mul];omega
    rw [hf,List.drop_append,List.drop_eq_nil_of_le (by rw [hl _ fun y hy=>h2 y (List.mem_of_mem_take hy)];simp [Nat.min_eq_left hk]),hl _ fun y hy=>h2 y (List.mem_of_mem_take hy)]
    simp only [List.length_take,Nat.min_eq_left hk,Nat.sub_self,List.drop_zero,List.nil_append]
    rw [List.take_of_length_le]
    rw [hl _ fun y hy=>h2 y (List.mem_of_mem_drop hy)];simp
   rw [e1]at k2
   refine⟨_,rfl,rfl,Rd.scons (sz:=sz) h8 (by omega) ⟨by have:maxLen=9223372036854775807:=rfl;omega,by omega⟩ (by simp) (fun y hy=>h2 y (List.mem_of_mem_drop hy)) h3 (fun j u hu=> ?_) (fun u hu=>h10 u (List.mem_of_mem_drop (List.mem_of_mem_take hu))) k2 .nil,fun b hb=> ?_⟩
   ·rw [List.getElem?_take]at hu
    split at hu
    ·rw [List.getElem?_drop,List.getElem?_take]at hu
     split at hu
     ·simpa using hu
     ·cases hu
    ·cases hu
   ·simp only [List.append_nil,List.mem_cons]at hb
    rcases hb with rfl|hb
    ·exact .inl (by simp)
    ·exact .inr (k1 b hb)
  ·have e0:xs.length-k=0:=by omega
   rw [e0,List.drop_eq_nil_of_le hge]
   exact⟨[],rfl,rfl, .snil .nil,by simp⟩
def zjt (n:Nat) (l:List DT):List DT:=(List.replicate n l).flatten
theorem zyH (n:Nat) (l:List DT):(zjt n l).length=n*l.length:=by
 induction n with
 |zero=>simp [zjt]
 |succ n ih=>simp only [zjt,List.replicate_succ,List.flatten_cons,List.length_append]at ih ⊢;rw [ih,Nat.add_mul];omega
theorem zA7 (l:List DT):zjt 1 l=l:=by simp [zjt]
theorem zg2 (n:Nat) (l:List DT):zjt (n+1) l=l++zjt n l:=by simp [zjt,List.replicate_succ]
theorem zye (n m:Nat) (l:List DT):zjt (n+m) l=zjt n l++zjt m l:=by
 induction n with
 |zero=>simp [zjt]
 |succ n ih=>rw [show n+1+m=(n+m)+1 from by omega,zg2,ih,zg2,List.append_assoc]
theorem zBj (n:Nat) (l:List DT): ∀(k o:Nat),k<n→o<l.length→(zjt n l)[k*l.length+o]?=l[o]?:=by
 induction n with
 |zero=>intro k o h;omega
 |succ n ih=>
  intro k o hk ho
  rw [zg2]
  cases k with
  |zero=>rw [Nat.zero_mul,Nat.zero_add,List.getElem?_append_left ho]
  |succ k=>
   rw [Nat.add_mul,Nat.one_mul,List.getElem?_append_right (by omega),show k*l.length+l.length+o-l.length=k*l.length+o from by omega]
   exact ih k o (by omega) ho
theorem zpZ (n:Nat) {l:List DT} (h:l.all DT.isFlat=true):(zjt n l).all DT.isFlat=true:=by
 induction n with
 |zero=>rfl
 |succ n ih=>rw [zg2,List.all_append,h,ih];rfl
mutual
theorem DT.beq_eq: ∀(a b:DT),a.beq b=true→a=b
 | .flat, .flat,_=>rfl
 | .row e z l, .row e' z' l',h=>by
  simp only [DT.beq,Bool.and_eq_true,beq_iff_eq]at h
  rw [h.1.1,h.1.2,DTL.beq_eq _ _ h.2]
 | .flat, .row ..,h=>by simp [DT.beq]at h
 | .row .., .flat,h=>by simp [DT.beq]at h
theorem DTL.beq_eq: ∀(a b:DTL),a.beq b=true→a=b
 | .nil, .nil,_=>rfl
 | .cons a as, .cons b bs,h=>by
  simp only [DTL.beq,Bool.and_eq_true]at h
  rw [DT.beq_eq _ _ h.1,DTL.beq_eq _ _ h.2]
 | .nil, .cons ..,h=>by simp [DTL.beq]at h
 | .cons .., .nil,h=>by simp [DTL.beq]at h
end
theorem DTL.toList_of (l:List DT):(DTL.of l).toList=l:=by induction l<;>simp [DTL.of,DTL.toList, *]
theorem DTL.of_toList: ∀l:DTL,DTL.of l.toList=l
 | .nil=>rfl
 | .cons d l=>by simp [DTL.toList,DTL.of,DTL.of_toList l]
theorem DTL.of_inj {l l':List DT} (h:(DTL.of l).beq (DTL.of l')=true):l=l':=by
 have:=congrArg DTL.toList (DTL.beq_eq _ _ h)
 simpa [DTL.toList_of]using this
theorem DTL.of_eq {l:List DT} {l':DTL} (h:(DTL.of l).beq l'=true):l=l'.toList:=by
 have:=congrArg DTL.toList (DTL.beq_eq _ _ h)
 simpa [DTL.toList_of]using this
theorem zks {d:Option DT} {e z:Nat} {l:List DT} (h:zlQ d e z l=true):d=some (.row e z (DTL.of l)):=by
 cases d with
 |none=>simp [zlQ]at h
 |some d=>
  cases d with
  |flat=>simp [zlQ]at h
  |row e' z' l'=>
   simp only [zlQ,Bool.and_eq_true,beq_iff_eq]at h
   obtain⟨⟨rfl,rfl⟩,h3⟩:=h
   rw [DTL.of_eq h3,DTL.of_toList]
inductive DC (w:World):List DT→List Value→List AV→List Nat→Prop where
 |nil:DC w [] [] [] []
 |flat {v x ts vs xs N}:Rd w [v] [x] []→DC w ts vs xs N→DC w (.flat::ts) (v::vs) (x::xs) N
 |void {e z l a ts vs xs N}:0<z→l.toList.length=z→DC w ts vs xs N→DC w (.row e z l::ts) (.slice a 0 0::vs) (.sl []::xs) N
 |row {e z l g cap C ys N1 ts vs xs N}:0<z→l.toList.length=z→w.heap[g]?=some (.cells C e (0,0))→ys.length≤cap→cap≤maxLen→C.size=cap*z→(∀y∈ys,y.cells.length=z)→(∀u∈C.toList.take (ys.length*z),u.oneCell'=true)→
   DC w (zjt ys.length l.toList) (C.toList.take (ys.length*z)) (zaQ ys) N1→DC w ts vs xs N→DC w (.row e z l::ts) (.slice (some ⟨g,0,none⟩) ys.length cap::vs) (.sl ys::xs) (g::(N1++N))
theorem DC.len {w:World} {ts:List DT} {vs:List Value} {xs:List AV} {N:List Nat} (h:DC w ts vs xs N):vs.length=ts.length∧xs.length=ts.length:=by
 induction h with
 |nil=>simp
 |flat _ _ ih=>simp [ih]
 |void _ _ _ ih=>simp [ih]
 |row _ _ _ _ _ _ _ _ _ _ _ ih=>simp [ih]
theorem DC.frame {w w':World} {ts:List DT} {vs:List Value} {xs:List AV} {N:List Nat} (h:DC w ts vs xs N):(∀b∈N,w'.heap[b]?=w.heap[b]?)→DC w' ts vs xs N:=by
 induction h with
 |nil=>exact fun _=> .nil
 |flat a _ ih=>exact fun hf=> .flat (a.frame (by simp)) (ih hf)
 |void a b _ ih=>exact fun hf=> .void a b (ih hf)
 |row h1 h2 h3 h4 h5 h6 h7 h8 _ _ ih1 ih2=>
  exact fun hf=> .row h1 h2 (by rw [hf _ (by simp)];exact h3) h4 h5 h6 h7 h8 (ih1 fun b m=>hf b (by simp [m])) (ih2 fun b m=>hf b (by simp [m]))
theorem DC.inb {w:World} {ts:List DT} {vs:List Value} {xs:List AV} {N:List Nat} (h:DC w ts vs xs N): ∀b∈N,b<w.heap.size:=by
 induction h with
 |nil=>simp
 |flat _ _ ih=>exact ih
 |void _ _ _ ih=>exact ih
 |row h1 h2 h3 h4 h5 h6 h7 h8 _ _ ih1 ih2=>
  intro b m
  simp only [List.mem_cons,List.mem_append]at m
  rcases m with rfl|m|m
  ·exact zcn h3
  ·exact ih1 b m
  ·exact ih2 b m
theorem DC.app {w:World} {ts us:List DT} {vs ws:List Value} {xs ys:List AV} {N M:List Nat} (h:DC w ts vs xs N) (k:DC w us ws ys M):DC w (ts++us) (vs++ws) (xs++ys) (N++M):=by
 induction h with
 |nil=>exact k
 |flat a _ ih=>exact .flat a ih
 |void a b _ ih=>exact .void a b ih
 |row h1 h2 h3 h4 h5 h6 h7 h8 h9 _ _ ih2=>
  simp only [List.cons_append,List.append_assoc]
  exact DC.row h1 h2 h3 h4 h5 h6 h7 h8 h9 ih2
theorem DC.uncons {w:World} {t:DT} {ts:List DT} {v:Value} {vs:List Value} {x:AV} {xs:List AV} {N:List Nat} (h:DC w (t::ts) (v::vs) (x::xs) N):
  ∃N1 N2,N=N1++N2∧DC w [t] [v] [x] N1∧DC w ts vs xs N2:=by
 cases h with
 |flat a h=>exact⟨[],N,rfl, .flat a .nil,h⟩
 |void a b h=>exact⟨[],N,rfl, .void a b .nil,h⟩
 |row h1 h2 h3 h4 h5 h6 h7 h8 h9 h=>
  rename_i g cap C ys N1 N2 l
  exact⟨_::(_++ []),_,by simp, .row h1 h2 h3 h4 h5 h6 h7 h8 h9 .nil,h⟩
theorem DC.unapp {w:World}: ∀{ts us:List DT} {vs ws:List Value} {xs ys:List AV} {N:List Nat},vs.length=ts.length→xs.length=ts.length→DC w (ts++us) (vs++ws) (xs++ys) N→ ∃N1 N2,N=N1++N2∧DC w ts vs xs N1∧DC w us ws ys N2
 | [],us, [],ws, [],ys,N,_,_,h=>⟨[],N,rfl, .nil,h⟩
 |t::ts,us,v::vs,ws,x::xs,ys,N,hl,hk,h=>by
  obtain⟨f1,f2,rfl,h1,h2⟩:=DC.uncons h
  obtain⟨f3,f4,rfl,h3,h4⟩:=DC.unapp (ts:=ts) (vs:=vs) (xs:=xs) (by simpa using hl) (by simpa using hk) h2
  exact⟨f1++f3,f4,by simp,h1.app h3,h4⟩
 | [],_,_::_,_,_,_,_,h,_,_=>by simp at h
 | [],_, [],_,_::_,_,_,_,h,_=>by simp at h
 |_::_,_, [],_,_,_,_,h,_,_=>by simp at h
 |_::_,_,_::_,_, [],_,_,_,h,_=>by simp at h
theorem DC.split {w:World} {ts:List DT} {vs:List Value} {xs:List AV} {N:List Nat} (h:DC w ts vs xs N) (p n:Nat):
  ∃N1 N2 N3,N=N1++N2++N3∧DC w (ts.take p) (vs.take p) (xs.take p) N1∧DC w ((ts.drop p).take n) ((vs.drop p).take n) ((xs.drop p).take n) N2∧DC w (ts.drop (p+n)) (vs.drop (p+n)) (xs.drop (p+n)) N3:=by
 obtain⟨l1,l2⟩:=h.len
 have h':=h
 rw [←List.take_append_drop p ts,←List.take_append_drop p vs,←List.take_append_drop p xs]at h'
 obtain⟨N1,M,rfl,h1,h2⟩:=DC.unapp (by simp [l1]) (by simp [l2]) h'
 rw [←List.take_append_drop n (ts.drop p),←List.take_append_drop n (vs.drop p),←List.take_append_drop n (xs.drop p)]at h2
 obtain⟨N2,N3,rfl,h3,h4⟩:=DC.unapp (by simp [l1]) (by simp [l2]) h2
 refine⟨N1,N2,N3,by simp,h1,h3, ?_⟩
 simpa [List.drop_drop]using h4
theorem DC.rd {w:World} {ts:List DT} {vs:List Value} {xs:List AV} {N:List Nat} (h:DC w ts vs xs N): ∃f,Rd w vs xs f∧ ∀b∈f,b∈N:=by
 induction h with
 |nil=>exact⟨[], .nil,by simp⟩
 |flat a _ ih=>
  obtain⟨f,h1,h2⟩:=ih
  exact⟨[]++f,by simpa using a.app h1,by simpa using h2⟩
 |void _ _ _ ih=>
  obtain⟨f,h1,h2⟩:=ih
  exact⟨f, .snil h1,h2⟩
 | @row e z l g cap C ys N1 ts vs xs N h1 h2 h3 h4 h5 h6 h7 h8 _ _ ih1 ih2=>
  obtain⟨f1,k1,k2⟩:=ih1
  obtain⟨f2,k3,k4⟩:=ih2
  rcases Nat.eq_zero_or_pos ys.length with h0|h0
  ·have:ys= []:=List.eq_nil_of_length_eq_zero h0
   subst this
   exact⟨f2, .snil k3,fun b hb=>by simp [k4 b hb]⟩
  ·refine⟨g::(f1++f2),Rd.scons (o:=0) (c:=cap) (cs:=C.toList.take (ys.length*z)) h3 h0 ⟨by have:maxLen=9223372036854775807:=rfl;omega,by omega⟩ rfl h7 h1 (fun j u hu=>by
    rw [Nat.zero_add]
    rw [List.getElem?_take]at hu
    split at hu
    ·simpa using hu
    ·cases hu) h8 k1 k3,fun b hb=> ?_⟩
   simp only [List.mem_cons,List.mem_append]at hb ⊢
   rcases hb with hb|hb|hb
   ·exact .inl hb
   ·exact .inr (.inl (k2 b hb))
   ·exact .inr (.inr (k4 b hb))
theorem DC.flats {w:World} {ts:List DT} {vs:List Value} {xs:List AV} {N:List Nat} (h:DC w ts vs xs N):ts.all DT.isFlat=true→N= []:=by
 induction h with
 |nil=>exact fun _=>rfl
 |flat _ _ ih=>exact fun h=>ih (by simpa [DT.isFlat]using h)
 |void _ _ _ _=>exact fun h=>by simp [DT.isFlat]at h
 |row _ _ _ _ _ _ _ _ _ _ _ _=>exact fun h=>by simp [DT.isFlat]at h
theorem DC.flatRd {w:World} {ts:List DT} {vs:List Value} {xs:List AV} {N:List Nat} (h:DC w ts vs xs N) (ht:ts.all DT.isFlat=true):Rd w vs xs []:=by
 have hN:=h.flats ht
 subst hN
 obtain⟨f,h1,h2⟩:=h.rd
 have:f= []:=List.eq_nil_iff_forall_not_mem.2 fun b hb=>by simpa using h2 b hb
 rw [this]at h1;exact h1
theorem DC.ofRd {w:World}: ∀{ts:List DT} {vs:List Value} {xs:List AV},Rd w vs xs []→ts.all DT.isFlat=true→ts.length=vs.length→DC w ts vs xs []
 | [], [],xs,h,_,_=>by cases h;exact .nil
 | .flat::ts,v::vs,xs,h,ha,hl=>by
  have hx:=h.len
  match xs,hx with
  |x::xs,_=>
   obtain⟨f1,f2,hf,h1,h2⟩:=h.uncons
   obtain⟨rfl,rfl⟩:f1= []∧f2= []:=by simpa using hf.symm
   exact .flat h1 (DC.ofRd h2 (by simpa [DT.isFlat]using ha) (by simpa using hl))
 | .row .. ::_,_::_,_,_,ha,_=>by simp [DT.isFlat]at ha
 | [],_::_,_,_,_,h=>by simp at h
 |_::_, [],_,_,_,h=>by simp at h
theorem DC.inv {w:World} {e z:Nat} {l:DTL} {v:Value} {x:AV} {N:List Nat} (h:DC w [.row e z l] [v] [x] N):
  0<z∧l.toList.length=z∧((∃a,v= .slice a 0 0∧x= .sl []∧N= [])∨ ∃g cap C ys N1,v= .slice (some ⟨g,0,none⟩) ys.length cap∧x= .sl ys∧N=g::N1∧w.heap[g]?=some (.cells C e (0,0))∧ys.length≤cap∧cap≤maxLen∧C.size=cap*z∧(∀y∈ys,y.cells.length=z)∧
   (∀u∈C.toList.take (ys.length*z),u.oneCell'=true)∧DC w (zjt ys.length l.toList) (C.toList.take (ys.length*z)) (zaQ ys) N1):=by
 cases h with
 |void a b h=>cases h;exact⟨a,b, .inl ⟨_,rfl,rfl,rfl⟩⟩
 |row h1 h2 h3 h4 h5 h6 h7 h8 h9 h=>cases h;exact⟨h1,h2, .inr ⟨_,_,_,_,_,rfl,rfl,by simp,h3,h4,h5,h6,h7,h8,h9⟩⟩
theorem DC.ofOwn {w:World} {e z:Nat} {l:DTL} {v:Value} {x:AV} {top:List Nat} (h:zdF w e z v x top []) (ha:l.toList.all DT.isFlat=true) (hl:l.toList.length=z):DC w [.row e z l] [v] [x] top:=by
 obtain⟨xs,rfl,h2,h3,⟨rfl,⟨a,rfl⟩,rfl,_⟩|⟨g,cap,C,rfl,h6,h7,h8,h9,rfl,h10,h11⟩⟩:=h
 ·exact .void h3 hl .nil
 ·have hcl:(C.toList.take (xs.length*z)).length=xs.length*z:=by
   have:C.toList.length=cap*z:=by simpa using h9
   rw [List.length_take,this];exact Nat.min_eq_left (Nat.mul_le_mul_right _ h6)
  have:=DC.row (l:=l) h3 hl h8 h6 h7 h9 h2 h10 (DC.ofRd h11 (zpZ _ ha) (by rw [zyH,hl,hcl])) .nil
  simpa using this
theorem DC.toOwn {w:World} {e z:Nat} {l:DTL} {v:Value} {x:AV} {N:List Nat} (h:DC w [.row e z l] [v] [x] N) (ha:l.toList.all DT.isFlat=true):zdF w e z v x N []:=by
 obtain⟨h1,h2,⟨a,rfl,rfl,rfl⟩|⟨g,cap,C,ys,N1,rfl,rfl,rfl,h3,h4,h5,h6,h7,h8,h9⟩⟩:=h.inv
 ·exact⟨[],rfl,by simp,h1, .inl ⟨rfl,⟨a,rfl⟩,rfl,rfl⟩⟩
 ·have hN:=h9.flats (zpZ _ ha)
  subst hN
  exact⟨ys,rfl,h7,h1, .inr ⟨g,cap,C,rfl,h4,h5,h3,h6,rfl,h8,h9.flatRd (zpZ _ ha)⟩⟩
theorem DC.ownRow {w:World} {e z:Nat} {l:DTL} {v:Value} {x:AV} {N:List Nat} (h:DC w [.row e z l] [v] [x] N): ∃f,zdF w e z v x (N.take 1) f∧ ∀b∈f,b∈N.drop 1:=by
 obtain⟨h1,h2,⟨a,rfl,rfl,rfl⟩|⟨g,cap,C,ys,N1,rfl,rfl,rfl,h3,h4,h5,h6,h7,h8,h9⟩⟩:=h.inv
 ·exact⟨[],⟨[],rfl,by simp,h1, .inl ⟨rfl,⟨a,rfl⟩,rfl,rfl⟩⟩,by simp⟩
 ·obtain⟨f,k1,k2⟩:=h9.rd
  exact⟨f,⟨ys,rfl,h7,h1, .inr ⟨g,cap,C,rfl,h4,h5,h3,h6,rfl,h8,k1⟩⟩,by simpa using k2⟩
theorem DC.head {w:World} {e z:Nat} {l:DTL} {v:Value} {x:AV} {N:List Nat} (h:DC w [.row e z l] [v] [x] N): ∃q n r,v= .slice q n r:=by
 obtain⟨_,_,⟨a,rfl,_⟩|⟨g,cap,C,ys,N1,rfl,_⟩⟩:=h.inv
 ·exact⟨_,_,_,rfl⟩
 ·exact⟨_,_,_,rfl⟩
end Go.Proofs.YtecngjbpbnfegaaGreatDoor
end
section
namespace Go.Proofs.YtecngjbpbnfegaaGreatDoor
open Go.RowKit
structure GI where
 top:List Nat
 O:List Nat
def GI.own (g:GI):List Nat:=g.top++g.O
def zeF (ρ:List AV) (gs:Gd):Prop:= ∀g∈gs,g.1.den ρ= .bool g.2
structure Al where
 ok:Nat→Prop
 pin:Nat→Option Value
instance:CoeFun Al (fun _=>Nat→Prop):=⟨Al.ok⟩
structure Cx where
 ρ:List AV
 w:World
 G:Nat→GI
 K:Nat→Nat→Prop
 H:Nat→Nat→Value
 A:Al
 w0:World
 Mu:Nat→Prop
 U:Nat→Prop
 E:Nat→Nat
def Cx.B (c:Cx):Nat:=c.w0.heap.size
def Cx.M (c:Cx) (b:Nat):Prop:= ∃t,b∈(c.G t).top
def Cx.ok (c:Cx) (b:Nat):Prop:= ¬c.M b∧(c.A b∨c.B≤b∨c.Mu b)
def Res (ρ:List AV) (o:Option Ent) (e:Ent):Prop:=match o with
 |some (.gd gs e')=>zeF ρ gs∧e'=e
 |some e'=>e'=e
 |none=>False
def Uni (_:World) (f:List Nat):Prop:=f= []
def znf (c:Cx) (t g:Nat) (p:Pth) (v:Value):Prop:=match p with
 |none=>True
 |some (i,z,o)=> ∃b n cap C ty fz kk k,c.H t g= .slice (some ⟨b,0,none⟩) n cap∧b∈(c.G t).top∧c.w.heap[b]?=some (.cells C ty fz)∧i.den c.ρ= .int kk k∧0≤k∧k<n∧C[k.toNat*z+o]?=some v
def zAe (c:Cx) (t:Nat) (v:Value) (x:AV):Prop:= ∃f,Rd c.w [v] [x] f∧ ∀b∈f,c.ok b∨b∈(c.G t).top
inductive SR (c:Cx):List SV→List Value→Prop where
 |nil:SR c [] []
 |undef {v ss vs}:SR c ss vs→SR c (.undef::ss) (v::vs)
 |e {x v f ss vs}:Rd c.w [v] [x.den c.ρ] f→(∀b∈f,c.ok b)→SR c ss vs→SR c (.e x::ss) (v::vs)
 |nils {ss vs}:SR c ss vs→SR c (.nils::ss) (.slice none 0 0::vs)
 |emp {a ss vs}:SR c ss vs→SR c (.emp::ss) (.slice a 0 0::vs)
 |own {t g p q r ss vs}:c.K t g→c.H t g= .slice p q r→SR c ss vs→SR c (.own t g::ss) (.slice p q r::vs)
 |bptr {t o b ss vs}:c.K t 0→c.H t 0= .pointer (some ⟨b,0,none⟩)→SR c ss vs→SR c (.bptr t o::ss) (.pointer (some ⟨b,o,none⟩)::vs)
 |rptr {t g:Nat} {i:E} {sz o b n cap kk} {k:Int} {ss vs}:c.K t g→c.H t g= .slice (some ⟨b,0,none⟩) n cap→i.den c.ρ= .int kk k→0≤k→k<n→SR c ss vs→
   SR c (.rptr t g i sz o::ss) (.pointer (some ⟨b,k.toNat*sz+o,none⟩)::vs)
 |eptr {x i:E} {sz o b off n cap:Nat} {f kk} {k:Int} {ss vs}:Rd c.w [.slice (some ⟨b,off,none⟩) n cap] [x.den c.ρ] f→(∀b∈f,c.ok b)→i.den c.ρ= .int kk k→0≤k→k<n→((x.den c.ρ).nth k.toNat).cells.length=sz→
   SR c ss vs→SR c (.eptr x i sz o::ss) (.pointer (some ⟨b,off+k.toNat*sz+o,none⟩)::vs)
 |pptr {x:E} {o b:Nat} {f ss vs}:Rd c.w [.pointer (some ⟨b,0,none⟩)] [x.den c.ρ] f→(∀b∈f,c.ok b)→SR c ss vs→SR c (.pptr x o::ss) (.pointer (some ⟨b,o,none⟩)::vs)
 |agg {cs as ss vs}:(∀u∈as,u.oneCell'=true)→SR c cs.toList as→SR c ss vs→SR c (.agg cs::ss) (.agg as.toArray::vs)
 |tup {cs as ss vs}:SR c cs.toList as→SR c ss vs→SR c (.tup cs::ss) (.tuple as.toArray::vs)
 |fn {g cs as ss vs}:SR c cs.toList as→SR c ss vs→SR c (.fn g cs::ss) (.func (.func g) #[] as.toArray::vs)
 |gd {gs s v ss vs}:(zeF c.ρ gs→SR c [s] [v])→(¬zeF c.ρ gs→v=undef)→SR c ss vs→SR c (.gd gs s::ss) (v::vs)
 |via {t g n p x v ss vs}:c.K t g→n≤c.E t→(c.E t=n→zAe c t v (x.den c.ρ)∧znf c t g p v)→SR c ss vs→SR c (.via t g n p x::ss) (v::vs)
 |vptr {t g n p x i sz o v ss vs}:c.K t g→n≤c.E t→(c.E t=n→ ∃(b off len cap:Nat) (kk:IntKind) (k:Int),zAe c t (.slice (some ⟨b,off,none⟩) len cap) (x.den c.ρ)∧znf c t g p (.slice (some ⟨b,off,none⟩) len cap)∧i.den c.ρ= .int kk k∧0≤k∧k<len∧
   ((x.den c.ρ).nth k.toNat).cells.length=sz∧v= .pointer (some ⟨b,off+k.toNat*sz+o,none⟩))→SR c ss vs→SR c (.vptr t g n p x i sz o::ss) (v::vs)
 |wown {t g:Nat} {lo:E} {sz:Nat} {q:Option Addr} {n cap:Nat} {q':Option Addr} {r:Nat} {kk:IntKind} {k:Int} {ss vs}:c.K t g→c.H t g= .slice q n cap→lo.den c.ρ= .int kk k→0≤k→k≤n→(k<n→ ∃b,q=some ⟨b,0,none⟩∧q'=some ⟨b,k.toNat*sz,none⟩∧r=cap-k.toNat)→SR c ss vs→SR c (.wown t g lo sz::ss) (.slice q' (n-k.toNat) r::vs)
def zCq (c:Cx) (e z:Nat) (l:List DT) (v:Value) (x i:AV) (o u:Nat) (N:List Nat):Prop:=
 ∃(b cap:Nat) (C:Array Value) (ys:List AV) (kk:IntKind) (k:Int) (N1 N2:List Nat),v= .slice (some ⟨b,0,none⟩) ys.length cap∧x= .sl ys∧i= .int kk k∧0≤k∧k<ys.length∧o<z∧0<z∧l.length=z∧c.w.heap[b]?=some (.cells C e (0,0))∧ys.length≤cap∧cap≤maxLen∧C.size=cap*z∧(∀y∈ys,y.cells.length=z)∧
  (∀w∈C.toList.take (ys.length*z),w.oneCell'=true)∧N=b::(N1++N2)∧c.K u 0∧C[k.toNat*z+o]?=some (c.H u 0)∧
  DC c.w ((zjt ys.length l).take (k.toNat*z+o)) ((C.toList.take (ys.length*z)).take (k.toNat*z+o)) ((zaQ ys).take (k.toNat*z+o)) N1∧
  DC c.w ((zjt ys.length l).drop (k.toNat*z+o+1)) ((C.toList.take (ys.length*z)).drop (k.toNat*z+o+1)) ((zaQ ys).drop (k.toNat*z+o+1)) N2
def zkI (c:Cx) (t:Nat):Ent→Prop
 | .box ty _ cs=> ∃b C,c.K t 0∧c.H t 0= .pointer (some ⟨b,0,none⟩)∧(c.G t).top= [b]∧(c.G t).O= []∧c.w.heap[b]?=some (.cells C ty (0,0))∧(∀u∈C.toList,u.oneCell'=true)∧SR c cs C.toList
 | .row ety sz g x d=>c.K t g∧(∀g',c.K t g'→g'≤g)∧ ∃N,zdF c.w ety sz (c.H t g) (x.den c.ρ) (c.G t).top N∧(∀b∈N,c.ok b)∧(d=true→Uni c.w N∧(c.G t).O=N)∧(d=false→(c.G t).O= [])
 | .frz g x=>c.K t g∧(∃f,Rd c.w [c.H t g] [x.den c.ρ] f∧ ∀b∈f,c.ok b)∧(c.G t).top= []∧(c.G t).O= []
 | .gd .. =>(c.G t).top= []∧(c.G t).O= []
 | .dead=>(c.G t).top= []∧(c.G t).O= []
 | .deep e z l g ep x=>c.K t g∧(∀g',c.K t g'→g'≤g)∧c.E t=ep∧DC c.w [.row e z (DTL.of l)] [c.H t g] [x.den c.ρ] (c.G t).top∧(c.G t).O= []
 | .hol e z l g ep x i o u=>c.K t g∧(∀g',c.K t g'→g'≤g)∧c.E t=ep∧zCq c e z l (c.H t g) (x.den c.ρ) (i.den c.ρ) o u (c.G t).top∧(c.G t).O= []
structure GW (c:Cx):Prop where
 nodup: ∀t,(c.G t).own.Nodup
 disj: ∀t u,t≠u→ ∀b∈(c.G t).own,b∉(c.G u).own
 allow: ∀t,∀b∈(c.G t).own,c.B≤b∨c.Mu b
 inb: ∀t,∀b∈(c.G t).own,b<c.w.heap.size
structure zAZ (c:Cx):Prop where
 os:c.w.os=c.w0.os
 tape:c.w.tape=c.w0.tape
 output:c.w.output=c.w0.output
 size:c.w0.heap.size≤c.w.heap.size
 pins: ∀t v,c.A.pin t=some v→c.U t∧(c.K t 0→c.H t 0=v)
 block: ∀b,b<c.w0.heap.size→ ¬c.Mu b→c.w.heap[b]?=c.w0.heap[b]?
structure Rel (c:Cx) (n:Nat) (sl:Nat→SV) (hp:Nat→Option Ent) (a:Act):Prop where
 defers:a.defers= []
 size:a.tmps.size=n
 base:zAZ c
 slots: ∀i,SR c [sl i] [a.tmps.getD i undef]
 ents: ∀t e,Res c.ρ (hp t) e→zkI c t e
 off: ∀t,(∀e,¬Res c.ρ (hp t) e)→(c.G t).top= []∧(c.G t).O= []
 gw:GW c
 usedK: ∀t g,c.K t g→c.U t
 usedH: ∀t e,hp t=some e→c.U t
theorem SR.app {c:Cx} {ss:List SV} {vs:List Value} (h:SR c ss vs) {ss':List SV} {vs':List Value} (k:SR c ss' vs'):SR c (ss++ss') (vs++vs'):=by
 induction h with
 |nil=>exact k
 |undef _ ih=>exact .undef ih
 |e h1 h2 _ ih=>exact .e h1 h2 ih
 |nils _ ih=>exact .nils ih
 |emp _ ih=>exact .emp ih
 |own h1 h2 _ ih=>exact .own h1 h2 ih
 |bptr h1 h2 _ ih=>exact .bptr h1 h2 ih
 |rptr h1 h2 h3 h4 h5 _ ih=>exact .rptr h1 h2 h3 h4 h5 ih
 |eptr h1 h2 h3 h4 h5 h6 _ ih=>exact .eptr h1 h2 h3 h4 h5 h6 ih
 |pptr h1 h2 _ ih=>exact .pptr h1 h2 ih
 |agg h9 h1 _ _ ih=>exact .agg h9 h1 ih
 |tup h1 _ _ ih=>exact .tup h1 ih
 |fn h1 _ _ ih=>exact .fn h1 ih
 |gd h1 h2 _ _ ih=>exact .gd h1 h2 ih
 |via h1 h2 h3 _ ih=>exact .via h1 h2 h3 ih
 |vptr h1 h2 h3 _ ih=>exact .vptr h1 h2 h3 ih
 |wown h1 h2 h3 h4 h5 h6 _ ih=>exact .wown h1 h2 h3 h4 h5 h6 ih
theorem SR.len {c:Cx} {ss:List SV} {vs:List Value} (h:SR c ss vs):ss.length=vs.length:=by
 induction h<;>simp_all
theorem SR.uncons {c:Cx} {s:SV} {ss:List SV} {v:Value} {vs:List Value} (h:SR c (s::ss) (v::vs)):SR c [s] [v]∧SR c ss vs:=by
 cases h with
 |undef h=>exact⟨.undef .nil,h⟩
 |e h1 h2 h=>exact⟨.e h1 h2 .nil,h⟩
 |nils h=>exact⟨.nils .nil,h⟩
 |emp h=>exact⟨.emp .nil,h⟩
 |own h1 h2 h=>exact⟨.own h1 h2 .nil,h⟩
 |bptr h1 h2 h=>exact⟨.bptr h1 h2 .nil,h⟩
 |rptr h1 h2 h3 h4 h5 h=>exact⟨.rptr h1 h2 h3 h4 h5 .nil,h⟩
 |eptr h1 h2 h3 h4 h5 h6 h=>exact⟨.eptr h1 h2 h3 h4 h5 h6 .nil,h⟩
 |pptr h1 h2 h=>exact⟨.pptr h1 h2 .nil,h⟩
 |agg h9 h1 h=>exact⟨.agg h9 h1 .nil,h⟩
 |tup h1 h=>exact⟨.tup h1 .nil,h⟩
 |fn h1 h=>exact⟨.fn h1 .nil,h⟩
 |gd h1 h2 h=>exact⟨.gd h1 h2 .nil,h⟩
 |via h1 h2 h3 h=>exact⟨.via h1 h2 h3 .nil,h⟩
 |vptr h1 h2 h3 h=>exact⟨.vptr h1 h2 h3 .nil,h⟩
 |wown h1 h2 h3 h4 h5 h6 h=>exact⟨.wown h1 h2 h3 h4 h5 h6 .nil,h⟩
theorem SR.cons {c:Cx} {s:SV} {ss:List SV} {v:Value} {vs:List Value} (h:SR c [s] [v]) (k:SR c ss vs):SR c (s::ss) (v::vs):=h.app k
theorem SR.get {c:Cx}: ∀{ss:List SV} {vs:List Value},SR c ss vs→ ∀{i:Nat} {s:SV},ss[i]?=some s→ ∃v,vs[i]?=some v∧SR c [s] [v]
 | [],vs,h,i,s,hs=>by simp at hs
 |s0::ss, [],h,_,_,_=>by have:=h.len;simp at this
 |s0::ss,v0::vs,h,i,s,hs=>by
  obtain⟨h1,h2⟩:=h.uncons
  cases i with
  |zero=>simp at hs;subst hs;exact⟨v0,rfl,h1⟩
  |succ i=>simpa using h2.get (by simpa using hs)
theorem SR.split {c:Cx}: ∀{ss:List SV} {vs:List Value} (n:Nat),SR c ss vs→SR c (ss.take n) (vs.take n)∧SR c (ss.drop n) (vs.drop n)
 |ss,vs,0,h=>by simpa using⟨SR.nil,h⟩
 | [],vs,n+1,h=>by
  have:=h.len
  cases vs with
  |nil=>simpa using SR.nil
  |cons=>simp at this
 |s::ss, [],n+1,h=>by have:=h.len;simp at this
 |s::ss,v::vs,n+1,h=>by
  obtain⟨h1,h2⟩:=h.uncons
  obtain⟨h3,h4⟩:=h2.split n
  exact⟨h1.app h3,h4⟩
structure zm4 (c c':Cx):Prop where
 ρ:c'.ρ=c.ρ
 ok: ∀b,b<c.w.heap.size→c.ok b→c'.ok b
 mem: ∀b,b<c.w.heap.size→c.ok b→c'.w.heap[b]?=c.w.heap[b]?
 K: ∀t g,c.K t g→c'.K t g∧c'.H t g=c.H t g
 E: ∀t g,c.K t g→c.E t≤c'.E t∧(c'.E t=c.E t→c'.G t=c.G t∧ ∀b∈(c.G t).top,b<c.w.heap.size→c'.w.heap[b]?=c.w.heap[b]?)
theorem zAe.keep {c c':Cx} (k:zm4 c c') {t g:Nat} (hK:c.K t g) (he:c'.E t=c.E t) {v:Value} {x:AV} (h:zAe c t v x):zAe c' t v x:=by
 obtain⟨f,h1,h2⟩:=h
 obtain⟨e1,e2⟩:=(k.E t g hK).2 he
 refine⟨f,h1.frame fun b hb=> ?_,fun b hb=> ?_⟩
 ·rcases h2 b hb with h|h
  ·exact k.mem b (h1.inb b hb) h
  ·exact e2 b h (h1.inb b hb)
 ·rcases h2 b hb with h|h
  ·exact .inl (k.ok b (h1.inb b hb) h)
  ·exact .inr (by rw [e1];exact h)
theorem znf.keep {c c':Cx} (k:zm4 c c') {t g:Nat} (hK:c.K t g) (he:c'.E t=c.E t) {p:Pth} {v:Value} (h:znf c t g p v):znf c' t g p v:=by
 cases p with
 |none=>exact trivial
 |some p=>
  obtain⟨i,z,o⟩:=p
  obtain⟨b,n,cap,C,ty,fz,kk,q,h1,h2,h3,h4,h5,h6,h7⟩:=h
  obtain⟨e1,e2⟩:=(k.E t g hK).2 he
  exact⟨b,n,cap,C,ty,fz,kk,q,by rw [(k.K t g hK).2];exact h1,by rw [e1];exact h2,by rw [e2 b h2 (zcn h3)];exact h3,by rw [k.ρ];exact h4,h5,h6,h7⟩
theorem Rd.keepC {c c':Cx} (k:zm4 c c') {vs:List Value} {xs:List AV} {f:List Nat} (h:Rd c.w vs xs f) (hf: ∀b∈f,c.ok b):Rd c'.w vs xs f∧ ∀b∈f,c'.ok b:=
 ⟨h.frame fun b hb=>k.mem b (h.inb b hb) (hf b hb),fun b hb=>k.ok b (h.inb b hb) (hf b hb)⟩
theorem zm4.refl (c:Cx):zm4 c c:=⟨rfl,fun _ _ h=>h,fun _ _ _=>rfl,fun _ _ h=>⟨h,rfl⟩,fun _ _ _=>⟨Nat.le_refl _,fun _=>⟨rfl,fun _ _ _=>rfl⟩⟩⟩
theorem SR.keep {c c':Cx} (k:zm4 c c') {ss:List SV} {vs:List Value} (h:SR c ss vs):SR c' ss vs:=by
 have hρ:=k.ρ
 induction h with
 |nil=>exact .nil
 |undef _ ih=>exact .undef ih
 |e h1 h2 _ ih=>obtain⟨a,b⟩:=Rd.keepC k h1 h2;exact .e (by rw [hρ];exact a) b ih
 |nils _ ih=>exact .nils ih
 |emp _ ih=>exact .emp ih
 |own h1 h2 _ ih=>obtain⟨a,b⟩:=k.K _ _ h1;exact .own a (b.trans h2) ih
 |bptr h1 h2 _ ih=>obtain⟨a,b⟩:=k.K _ _ h1;exact .bptr a (b.trans h2) ih
 |rptr h1 h2 h3 h4 h5 _ ih=>obtain⟨a,b⟩:=k.K _ _ h1;exact .rptr a (b.trans h2) (by rw [hρ];exact h3) h4 h5 ih
 |eptr h1 h2 h3 h4 h5 h6 _ ih=>obtain⟨a,b⟩:=Rd.keepC k h1 h2;exact .eptr (by rw [hρ];exact a) b (by rw [hρ];exact h3) h4 h5 (by rw [hρ];exact h6) ih
 |pptr h1 h2 _ ih=>obtain⟨a,b⟩:=Rd.keepC k h1 h2;exact .pptr (by rw [hρ];exact a) b ih
 |agg h9 _ _ ih1 ih2=>exact .agg h9 ih1 ih2
 |tup _ _ ih1 ih2=>exact .tup ih1 ih2
 |fn _ _ ih1 ih2=>exact .fn ih1 ih2
 |gd _ h2 _ ih1 ih2=>exact .gd (fun hg=>ih1 (by rw [←hρ];exact hg)) (fun hg=>h2 (by rw [←hρ];exact hg)) ih2
 | @via t g n p x v ss vs h1 h2 h3 _ ih=>
  obtain⟨a,b⟩:=k.K _ _ h1
  have hle:=(k.E t g h1).1
  refine .via a (Nat.le_trans h2 hle) (fun he=> ?_) ih
  have he0:c.E t=n:=by omega
  have hee:c'.E t=c.E t:=by omega
  obtain⟨q1,q2⟩:=h3 he0
  exact⟨by rw [hρ];exact q1.keep k h1 hee,q2.keep k h1 hee⟩
 | @vptr t g n p x i sz o v ss vs h1 h2 h3 _ ih=>
  obtain⟨a,b⟩:=k.K _ _ h1
  have hle:=(k.E t g h1).1
  refine .vptr a (Nat.le_trans h2 hle) (fun he=> ?_) ih
  have he0:c.E t=n:=by omega
  have hee:c'.E t=c.E t:=by omega
  obtain⟨b,off,len,cap,kk,q,q1,q2,q3⟩:=h3 he0
  exact⟨b,off,len,cap,kk,q,by rw [hρ];exact q1.keep k h1 hee,q2.keep k h1 hee,by rw [hρ];exact q3⟩
 |wown h1 h2 h3 h4 h5 h6 _ ih=>obtain⟨a,b⟩:=k.K _ _ h1;exact .wown a (b.trans h2) (by rw [hρ];exact h3) h4 h5 h6 ih
theorem zdF.frame {w w':World} {ety sz:Nat} {v:Value} {x:AV} {top N:List Nat} (h:zdF w ety sz v x top N) (ht: ∀b∈top,w'.heap[b]?=w.heap[b]?) (hN: ∀b∈N,w'.heap[b]?=w.heap[b]?):zdF w' ety sz v x top N:=by
 obtain⟨xs,h1,h2,h3,h4|⟨g,cap,C,h5,h6,h7,h8,h9,h10,h10',h11⟩⟩:=h
 ·exact⟨xs,h1,h2,h3, .inl h4⟩
 ·exact⟨xs,h1,h2,h3, .inr ⟨g,cap,C,h5,h6,h7,by rw [ht g (by simp [h10])];exact h8,h9,h10,h10',h11.frame hN⟩⟩
theorem Uni.frame {w w':World} {f:List Nat} (h:Uni w f) (hf: ∀b∈f,w'.heap[b]?=w.heap[b]?):Uni w' f:=have _:=hf;h
theorem zdF.inbN {w:World} {ety sz:Nat} {v:Value} {x:AV} {top N:List Nat} (h:zdF w ety sz v x top N): ∀b∈N,b<w.heap.size:=by
 obtain⟨xs,h1,h2,h3,h4|⟨g,cap,C,h5,h6,h7,h8,h9,h10,h10',h11⟩⟩:=h
 ·simp [h4.2.2.2]
 ·exact h11.inb
theorem zkI.keep {c c':Cx} (k:zm4 c c') {t:Nat} {e:Ent} (h:zkI c t e) (hG:c'.G t=c.G t) (hE:c'.E t=c.E t) (hK: ∀g,c'.K t g→c.K t g) (hm: ∀b∈(c.G t).top,c'.w.heap[b]?=c.w.heap[b]?):zkI c' t e:=by
 cases e with
 |box ty g cs=>
  obtain⟨b,C,h1,h2,h3,h4,h5,h5',h6⟩:=h
  obtain⟨a1,a2⟩:=k.K _ _ h1
  exact⟨b,C,a1,a2.trans h2,by rw [hG];exact h3,by rw [hG];exact h4,by rw [hm b (by simp [h3])];exact h5,h5',h6.keep k⟩
 |row ety sz g x d=>
  obtain⟨h1,h0,N,h2,h3,h4,h5⟩:=h
  obtain⟨a1,a2⟩:=k.K _ _ h1
  have hN:=h2.inbN
  refine⟨a1,fun g' hg'=>h0 g' (hK g' hg'),N, ?_,fun b hb=>k.ok b (hN b hb) (h3 b hb),fun hd=> ?_,fun hd=>by rw [hG];exact h5 hd⟩
  ·rw [a2,k.ρ,hG];exact h2.frame hm fun b hb=>k.mem b (hN b hb) (h3 b hb)
  ·obtain⟨a,b⟩:=h4 hd
   exact⟨a.frame fun b hb=>k.mem b (hN b hb) (h3 b hb),by rw [hG];exact b⟩
 |frz g x=>
  obtain⟨h1,⟨f,h2,h3⟩,h4,h5⟩:=h
  obtain⟨a1,a2⟩:=k.K _ _ h1
  obtain⟨a,b⟩:=Rd.keepC k h2 h3
  exact⟨a1,⟨f,by rw [a2,k.ρ];exact a,b⟩,by rw [hG];exact h4,by rw [hG];exact h5⟩
 |gd gs e=>exact by rw [zkI,hG];exact h
 |dead=>exact by rw [zkI,hG];exact h
 |deep e z l g ep x=>
  obtain⟨h1,h0,h2,h3,h4⟩:=h
  obtain⟨a1,a2⟩:=k.K _ _ h1
  exact⟨a1,fun g' hg'=>h0 g' (hK g' hg'),hE.trans h2,by rw [a2,k.ρ,hG];exact h3.frame hm,by rw [hG];exact h4⟩
 |hol e z l g ep x i o u=>
  obtain⟨h1,h0,h2,⟨b,cap,C,ys,kk,kv,N1,N2,p1,p2,p3,p4,p5,p6,p7,p7',p8,p9,p10,p11,p12,p13,p14,p15,p16,p17,p18⟩,h4⟩:=h
  obtain⟨a1,a2⟩:=k.K _ _ h1
  obtain⟨a3,a4⟩:=k.K _ _ p15
  refine⟨a1,fun g' hg'=>h0 g' (hK g' hg'),hE.trans h2,⟨b,cap,C,ys,kk,kv,N1,N2,by rw [a2];exact p1,by rw [k.ρ];exact p2,by rw [k.ρ];exact p3,p4,p5,p6,p7,p7',by rw [hm b (by rw [p14];simp)];exact p8,p9,p10,p11,p12,p13,by rw [hG];exact p14,a3,by rw [a4];exact p16,
   p17.frame fun q hq=>hm q (by rw [p14];simp [hq]),p18.frame fun q hq=>hm q (by rw [p14];simp [hq])⟩,by rw [hG];exact h4⟩
end Go.Proofs.YtecngjbpbnfegaaGreatDoor
end
section
namespace Go.Proofs.YtecngjbpbnfegaaGreatDoor
open Go.RowKit
theorem zu0 {ρ:List AV} {g:E × Bool} {gs:Gd} (h:zug g gs=true) (k:zeF ρ gs):g.1.den ρ= .bool g.2:=by
 simp only [zug,List.any_eq_true,Bool.and_eq_true,beq_iff_eq]at h
 obtain⟨x,hx,h1,h2⟩:=h
 rw [←E.beq_den ρ _ _ h1,←h2];exact k x hx
theorem zoE {ρ:List AV} {hs gs:Gd} (h:zrV hs gs=true) (k:zeF ρ gs):zeF ρ hs:=by
 simp only [zrV,List.all_eq_true]at h
 exact fun g hg=>zu0 (h g hg) k
theorem zcQ (ρ:List AV):zeF ρ []:=by simp [zeF]
def EH (c:Cx) (hp:Nat→Option Ent):Prop:= ∀t e,Res c.ρ (hp t) e→zkI c t e
theorem zaV {ρ:List AV} {hp:Nat→Option Ent} {gs:Gd} {t:Nat} {e:Ent} (h:zlm hp gs t=some e) (k:zeF ρ gs):Res ρ (hp t) e:=by
 unfold zlm at h
 cases ho:hp t with
 |none=>rw [ho]at h;simp at h
 |some o=>
  rw [ho]at h
  simp only [Option.bind_some]at h
  cases o with
  |gd hs e'=>
   simp only [zst]at h
   split at h
   ·rename_i hsub;simp at h;subst h;exact⟨zoE hsub k,rfl⟩
   ·cases h
  |box=>simp [zst]at h;subst h;rfl
  |row=>simp [zst]at h;subst h;rfl
  |frz=>simp [zst]at h;subst h;rfl
  |dead=>simp [zst]at h;subst h;rfl
  |deep=>simp [zst]at h;subst h;rfl
  |hol=>simp [zst]at h;subst h;rfl
theorem SR.ungd {c:Cx} {s s':SV} {v:Value} {gs:Gd} (h:SR c [s] [v]) (hu:ungd gs s=some s') (k:zeF c.ρ gs):SR c [s'] [v]:=by
 cases s<;>simp only [Go.Proofs.YtecngjbpbnfegaaGreatDoor.ungd]at hu<;>first
  |(cases hu;done)
  |(split at hu
    ·rename_i hsub
     simp at hu;subst hu
     cases h with
     |gd h1 _ _=>exact h1 (zoE hsub k)
    ·cases hu)
  |(simp at hu;subst hu;exact h)
theorem SVL.toList_of (l:List SV):(SVL.of l).toList=l:=by induction l<;>simp [SVL.of,SVL.toList, *]
theorem EL.den_of (ρ:List AV) (l:List E):(EL.of l).den ρ=l.map (E.den ρ):=by induction l<;>simp [EL.of,EL.den, *]
theorem zhy {c:Cx}: ∀(vs:List Value) (l:List SV),zdf.go vs=some l→SR c l vs
 | [],l,h=>by simp [zdf.go]at h;subst h;exact .nil
 |v::vs,l,h=>by
  unfold zdf.go at h
  split at h
  ·rename_i h0;cases h0
  ·rename_i k n vs' h0
   cases h0
   split at h
   ·rename_i hk
    obtain⟨l',hl,rfl⟩:=Option.map_eq_some_iff.1 h
    exact .e (.int hk .nil) (by simp) (zhy _ _ hl)
   ·cases h
  ·rename_i h0;cases h0
   obtain⟨l',hl,rfl⟩:=Option.map_eq_some_iff.1 h
   exact .e (.bool .nil) (by simp) (zhy _ _ hl)
  ·rename_i h0;cases h0
   split at h
   ·rename_i hk
    obtain⟨l',hl,rfl⟩:=Option.map_eq_some_iff.1 h
    exact .e (.str hk .nil) (by simp) (zhy _ _ hl)
   ·cases h
  ·rename_i h0;cases h0
   obtain⟨l',hl,rfl⟩:=Option.map_eq_some_iff.1 h
   exact .nils (zhy _ _ hl)
  ·rename_i h0;cases h0
   obtain⟨l',hl,rfl⟩:=Option.map_eq_some_iff.1 h
   exact .e (.nilp .nil) (by simp) (zhy _ _ hl)
  ·cases h
theorem zlB: ∀(vs:List Value) (l:List SV),zdf.go vs=some l→ ∀u∈vs,u.oneCell'=true
 | [],l,h,u,hu=>by simp at hu
 |v::vs,l,h,u,hu=>by
  unfold zdf.go at h
  split at h
  ·rename_i h0;cases h0
  all_goals (try (cases h;done))
  all_goals
   rename_i h0
   cases h0
   (try split at h)
   all_goals (try (cases h;done))
   all_goals
    obtain⟨l',hl,rfl⟩:=Option.map_eq_some_iff.1 h
    rcases List.mem_cons.1 hu with rfl|hu
    ·rfl
    ·exact zlB _ _ hl u hu
theorem zkD {c:Cx} {v:Value} {s:SV} (h:zdf v=some s):SR c [s] [v]:=by
 unfold zdf at h
 split at h
 ·split at h
  ·rename_i hk;simp at h;subst h;exact .e (.int hk .nil) (by simp) .nil
  ·cases h
 ·simp at h;subst h;exact .e (.bool .nil) (by simp) .nil
 ·split at h
  ·rename_i hk;simp at h;subst h;exact .e (.str hk .nil) (by simp) .nil
  ·cases h
 ·simp at h;subst h;exact .nils .nil
 ·simp at h;subst h;exact .e (.nilp .nil) (by simp) .nil
 ·rename_i cs
  simp only [Option.bind_eq_bind,Option.bind_eq_some_iff]at h
  obtain⟨l,hl,h⟩:=h
  simp at h;subst h
  have:=SR.agg (cs:=SVL.of l) (as:=cs.toList) (zlB _ _ hl) (by rw [SVL.toList_of];exact zhy (c:=c) _ _ hl) .nil
  simpa using this
 ·cases h
theorem zhZ {c:Cx} {sl:Nat→SV} {gs:Gd} {x:Operand} {s:SV} {a:Act} (h:zan sl gs x=some s) (hs: ∀t,x= .tmp t→SR c [sl t] [a.tmps.getD t undef]) (k:zeF c.ρ gs):SR c [s] [a.eval x]:=by
 cases x with
 |tmp t=>exact(hs t rfl).ungd h k
 |const v=>exact zkD h
 |func f=>simp [zan]at h;subst h;exact SR.fn (as:= []) .nil .nil
 |global g=>simp [zan]at h
theorem zdF.rd {w:World} {ety sz:Nat} {v:Value} {x:AV} {top N:List Nat} (h:zdF w ety sz v x top N): ∃f,Rd w [v] [x] f∧(∀b∈f,b∈top∨b∈N)∧ ∀b∈f.tail,b∈N:=by
 obtain⟨xs,rfl,h2,h3,⟨rfl,⟨a,rfl⟩,rfl,rfl⟩|⟨g,cap,C,rfl,h6,h7,h8,h9,rfl,h10',h11⟩⟩:=h
 ·exact⟨_, .snil .nil,by simp⟩
 ·rcases Nat.eq_zero_or_pos xs.length with h0|h0
  ·have:xs= []:=List.eq_nil_of_length_eq_zero h0
   subst this
   exact⟨_, .snil .nil,by simp⟩
  ·have:=Rd.scons (o:=0) (c:=cap) (cs:=C.toList.take (xs.length*sz)) h8 h0 ⟨by have:maxLen=9223372036854775807:=rfl;omega,by omega⟩ rfl h2 h3 (fun j u hu=>by
    rw [Nat.zero_add]
    rw [List.getElem?_take]at hu
    split at hu
    ·simpa using hu
    ·cases hu) h10' h11 .nil
   exact⟨_,this,by simp⟩
def Cx.see (c:Cx) (ts:List Nat) (b:Nat):Prop:=c.ok b∨ ∃t∈ts,b∈(c.G t).top
theorem Cx.see.mono {c:Cx} {ts us:List Nat} {b:Nat} (h:c.see ts b) (hs: ∀t∈ts,t∈us):c.see us b:=h.imp id fun⟨t,h1,h2⟩=>⟨t,hs t h1,h2⟩
theorem zs3 {c:Cx} {hp:Nat→Option Ent} {gs:Gd} (eh:EH c hp) (k:zeF c.ρ gs) {t g:Nat} {x:E} (h:zd2 hp gs t g=some x):
  ∃f,Rd c.w [c.H t g] [x.den c.ρ] f∧ ∀b∈f,c.see [t] b:=by
 unfold zd2 at h
 split at h
 ·rename_i e z g' y d hl
  split at h
  ·rename_i hg;subst hg;simp at h;subst h
   obtain⟨h1,h0,N,h2,h3,h4,h5⟩:=eh t _ (zaV hl k)
   obtain⟨f,hr,hf,_⟩:=h2.rd
   exact⟨f,hr,fun b hb=>(hf b hb).elim (fun h=> .inr ⟨t,by simp,h⟩) fun h=> .inl (h3 b h)⟩
  ·cases h
 ·rename_i g' y hl
  split at h
  ·rename_i hg;subst hg;simp at h;subst h
   obtain⟨h1,⟨f,h2,h3⟩,h4,h5⟩:=eh t _ (zaV hl k)
   exact⟨f,h2,fun b hb=> .inl (h3 b hb)⟩
  ·cases h
 ·rename_i e z l g' ep y hl
  split at h
  ·rename_i hg;subst hg;simp at h;subst h
   obtain⟨h1,h0,h2,h3,h4⟩:=eh t _ (zaV hl k)
   obtain⟨f,k1,k2⟩:=h3.rd
   exact⟨f,k1,fun b hb=> .inr ⟨t,by simp,k2 b hb⟩⟩
  ·cases h
 ·cases h
theorem znv {c:Cx} {hp:Nat→Option Ent} {gs:Gd} (eh:EH c hp) (k:zeF c.ρ gs) {t n:Nat} (h:ztB hp gs t n=true):c.E t=n:=by
 unfold ztB at h
 split at h
 ·rename_i hl
  obtain⟨_,_,h2,_⟩:=eh t _ (zaV hl k)
  rw [h2];exact(by simpa using h:n=_).symm
 ·cases h
theorem zrq (hp:Nat→Option Ent) (gs:Gd) (n:Nat) (s:SV) (l:List SV): ∀t,t∈zcz hp gs (n+1) (s::l)↔t∈zcz hp gs (n+1) [s]∨t∈zcz hp gs n l:=by
 intro t
 have h0: ∀m,zcz hp gs m []= []:=fun m=>by cases m<;>simp [zcz]
 simp only [zcz,List.mem_append,h0,List.not_mem_nil,or_false]
theorem zmY (hp:Nat→Option Ent) (gs:Gd): ∀n,zcz hp gs n []= []:=fun m=>by cases m<;>simp [zcz]
theorem zwR (hp:Nat→Option Ent) (gs:Gd) (n:Nat) (cs:SVL):zcz hp gs (n+1) [.agg cs]=zcz hp gs n cs.toList:=by simp only [zcz,zmY,List.append_nil]
theorem zwo (hp:Nat→Option Ent) (gs:Gd) (n:Nat) (cs:SVL):zcz hp gs (n+1) [.tup cs]=zcz hp gs n cs.toList:=by simp only [zcz,zmY,List.append_nil]
theorem zyt (hp:Nat→Option Ent) (gs:Gd) (n f:Nat) (cs:SVL):zcz hp gs (n+1) [.fn f cs]=zcz hp gs n cs.toList:=by simp only [zcz,zmY,List.append_nil]
theorem zyo (hp:Nat→Option Ent) (gs hs:Gd) (n:Nat) (s:SV):zcz hp gs (n+1) [.gd hs s]=zcz hp gs n [s]:=by simp only [zcz,zmY,List.append_nil]
mutual
theorem zhe {c:Cx} {hp:Nat→Option Ent} {gs:Gd} (eh:EH c hp) (k:zeF c.ρ gs): ∀(n:Nat) {s:SV} {x:E} {v:Value},zfb hp gs n s=some x→SR c [s] [v]→ ∀m,n≤m→
  ∃f,Rd c.w [v] [x.den c.ρ] f∧ ∀b∈f,c.see (zcz hp gs (m+1) [s]) b
 |0,s,x,v,h,_,m,_=>by simp [zfb]at h
 |n+1,s,x,v,h,hr,m,hm=>by
  obtain⟨m,rfl⟩: ∃m',m=m'+1:=⟨m-1,by omega⟩
  have hm':n≤m:=by omega
  have h0: ∀m,zcz hp gs m []= []:=fun m=>by cases m<;>simp [zcz]
  unfold zfb at h
  split at h
  ·cases h
  ·simp at h;subst h
   cases hr with
   |e h1 h2 _=>exact⟨_,h1,fun b hb=> .inl (h2 b hb)⟩
  ·simp at h;subst h
   cases hr with
   |nils _=>exact⟨_, .snil .nil,by simp⟩
  ·simp at h;subst h
   cases hr with
   |emp _=>exact⟨_, .snil .nil,by simp⟩
  ·cases hr with
   |own _ h8 _=>
    obtain⟨f,h1,h2⟩:=zs3 eh k h
    rw [h8]at h1
    exact⟨f,h1,fun b hb=>(h2 b hb).mono (by simp [zcz])⟩
  ·rename_i t
   split at h
   ·rename_i ty g0 cs hl
    obtain⟨l,hl',rfl⟩:=Option.map_eq_some_iff.1 h
    cases hr with
    |bptr h1 h2 _=>
     obtain⟨b,C,_,e2,e3,e4,e5,e5',e6⟩:=eh t _ (zaV hl k)
     rw [h2]at e2;cases e2
     obtain⟨f,g1,g2⟩:=zkA eh k n hl' e6 (m+1) (by omega)
     refine⟨_, .ref e5 e5' (by simpa [E.den,AV.cells]using g1) .nil,fun q hq=> ?_⟩
     simp only [List.append_nil,List.mem_cons]at hq
     rcases hq with rfl|hq
     ·exact .inr ⟨t,by simp [zcz],by simp [e3]⟩
     ·exact(g2 q hq).mono fun u hu=>by simp only [zcz,hl,h0,List.append_nil,List.mem_cons];exact .inr hu
   ·cases h
  ·cases h
  ·cases h
  ·cases h
  ·rename_i y
   simp at h;subst h
   cases hr with
   |pptr h1 h2 _=>exact⟨_,h1,fun b hb=> .inl (h2 b hb)⟩
  ·cases h
  ·rename_i cs
   obtain⟨l,hl',rfl⟩:=Option.map_eq_some_iff.1 h
   cases hr with
   |agg h9 h1 _=>
    obtain⟨f,g1,g2⟩:=zkA eh k n hl' h1 (m+1) (by omega)
    exact⟨_, .agg h9 g1 .nil,fun q hq=>by rw [zwR];exact g2 q (by simpa using hq)⟩
  ·rename_i cs
   obtain⟨l,hl',rfl⟩:=Option.map_eq_some_iff.1 h
   cases hr with
   |tup h1 _=>
    obtain⟨f,g1,g2⟩:=zkA eh k n hl' h1 (m+1) (by omega)
    exact⟨_, .tup g1 .nil,fun q hq=>by rw [zwo];exact g2 q (by simpa using hq)⟩
  ·rename_i g cs
   obtain⟨l,hl',rfl⟩:=Option.map_eq_some_iff.1 h
   cases hr with
   |fn h1 _=>
    obtain⟨f,g1,g2⟩:=zkA eh k n hl' h1 (m+1) (by omega)
    exact⟨_, .fn g1 .nil,fun q hq=>by rw [zyt];exact g2 q (by simpa using hq)⟩
  ·rename_i hs s
   split at h
   ·rename_i hsub
    cases hr with
    |gd h1 _ _=>
     obtain⟨f,g1,g2⟩:=zhe eh k n h (h1 (zoE hsub k)) m hm'
     exact⟨f,g1,fun q hq=>by rw [zyo];exact g2 q hq⟩
   ·cases h
  ·rename_i t g n' p y
   split at h
   ·rename_i hv
    simp at h;subst h
    cases hr with
    |via h1 h2 h3 _=>
     obtain⟨⟨f,q1,q2⟩,_⟩:=h3 (znv eh k hv)
     exact⟨f,q1,fun b hb=>(q2 b hb).imp id fun hh=>⟨t,by simp [zcz],hh⟩⟩
   ·cases h
  ·cases h
  ·rename_i t g lo z
   split at h
   ·rename_i e z' g' y d hl
    split at h
    ·rename_i hh
     obtain⟨rfl,rfl⟩:=hh
     simp at h;subst h
     cases hr with
     | @wown _ _ _ _ _ nn _ _ _ _ kv _ _ h1 h2 h3 h4 h5 h6 _=>
      obtain⟨p1,p0,N,p2,p3,_⟩:=eh t _ (zaV hl k)
      rw [h2]at p2
      obtain⟨xs,f,q1,q2,q3,q4⟩:=p2.win (k:=kv.toNat) (by omega) (fun hlt=>h6 (by omega))
      refine⟨f, ?_,fun b hb=>(q4 b hb).elim (fun hh=> .inr ⟨t,by simp [zcz],hh⟩) fun hh=> .inl (p3 b hh)⟩
      have e1:(E.win y lo (.len y)).den c.ρ= .sl (xs.drop kv.toNat):=by
       simp only [E.den,q1,AV.len,h3,AV.win]
       rw [List.take_of_length_le (by simp)]
      rw [e1];exact q3
    ·cases h
   ·cases h
theorem zkA {c:Cx} {hp:Nat→Option Ent} {gs:Gd} (eh:EH c hp) (k:zeF c.ρ gs): ∀(n:Nat) {ss:List SV} {xs:EL} {vs:List Value},zdI hp gs n ss=some xs→SR c ss vs→ ∀m,n≤m→
  ∃f,Rd c.w vs (xs.den c.ρ) f∧ ∀b∈f,c.see (zcz hp gs m ss) b
 |0,ss,xs,vs,h,_,m,_=>by simp [zdI]at h
 |n+1, [],xs,vs,h,hr,m,_=>by
  simp [zdI]at h;subst h
  cases hr;exact⟨[], .nil,by simp⟩
 |n+1,s::ss,xs, [],h,hr,m,_=>by have:=hr.len;simp at this
 |n+1,s::ss,xs,v::vs,h,hr,m,hm=>by
  obtain⟨m,rfl⟩: ∃m',m=m'+1:=⟨m-1,by omega⟩
  obtain⟨r1,r2⟩:=hr.uncons
  unfold zdI at h
  split at h
  ·rename_i x ys h1 h2
   simp at h;subst h
   obtain⟨f,a1,a2⟩:=zhe eh k n h1 r1 m (by omega)
   obtain⟨g,b1,b2⟩:=zkA eh k n h2 r2 m (by omega)
   refine⟨f++g,a1.app b1,fun q hq=> ?_⟩
   rcases List.mem_append.1 hq with hq|hq
   ·exact(a2 q hq).mono fun t ht=>(zrq hp gs m s ss t).2 (.inl ht)
   ·exact(b2 q hq).mono fun t ht=>(zrq hp gs m s ss t).2 (.inr ht)
  ·cases h
end
end Go.Proofs.YtecngjbpbnfegaaGreatDoor
end
section
namespace Go.Proofs.YtecngjbpbnfegaaGreatDoor
open Go.RowKit
def zjh (n:Nat) (sl:Nat→SV) (d:Option Nat) (s:SV) (i:Nat):SV:=if d=some i∧i<n then s else sl i
def zeH (hp:Nat→Option Ent) (l:List (Nat × Ent)):Nat→Option Ent:=l.foldl (fun h (t,e)=>fun u=>if u=t then some e else h u) hp
theorem Rel.put {c:Cx} {n:Nat} {sl:Nat→SV} {hp:Nat→Option Ent} {a:Act} (h:Rel c n sl hp a) {s:SV} {v:Value} (hv:SR c [s] [v]) (d:Option Nat):Rel c n (zjh n sl d s) hp (a.put d v):=by
 cases d with
 |none=>
  have e:zjh n sl none s=sl:=by funext i;simp [zjh]
  rw [e];exact h
 |some d=>
  refine⟨h.defers,by simpa [Act.put]using h.size,h.base,fun i=> ?_,h.ents,h.off,h.gw,h.usedK,h.usedH⟩
  simp only [zjh,Option.some.injEq,Act.put]
  by_cases hi:d=i∧i<n
  ·rw [if_pos hi]
   obtain⟨rfl,hi⟩:=hi
   have:(a.tmps.setIfInBounds d v).getD d undef=v:=by
    rw [Array.getD_eq_getD_getElem?,Array.getElem?_setIfInBounds]
    simp [h.size,hi]
   rw [this];exact hv
  ·rw [if_neg hi]
   have:(a.tmps.setIfInBounds d v).getD i undef=a.tmps.getD i undef:=by
    rw [Array.getD_eq_getD_getElem?,Array.getD_eq_getD_getElem?,Array.getElem?_setIfInBounds]
    by_cases hd:d=i
    ·subst hd
     have: ¬d<a.tmps.size:=fun h'=>hi ⟨rfl,by rw [←h.size];exact h'⟩
     simp [this,Array.getElem?_eq_none (Nat.le_of_not_lt this)]
    ·simp [hd]
   rw [this];exact h.slots i
theorem Rel.change {c c':Cx} {n:Nat} {sl:Nat→SV} {hp hp':Nat→Option Ent} {a:Act} (h:Rel c n sl hp a) (T:Nat→Prop) (k:zm4 c c') (hb:zAZ c')
  (h1: ∀t,¬T t→hp' t=hp t∧c'.G t=c.G t∧c'.E t=c.E t∧ ∀g,c'.K t g→c.K t g) (h2: ∀t,¬T t→ ∀b∈(c.G t).top,c'.w.heap[b]?=c.w.heap[b]?)
  (h3: ∀t,T t→(∀e,Res c.ρ (hp' t) e→zkI c' t e)∧((∀e,¬Res c.ρ (hp' t) e)→(c'.G t).top= []∧(c'.G t).O= []))
  (h4:GW c') (h5: ∀t g,c'.K t g→c'.U t) (h6: ∀t e,hp' t=some e→c'.U t):Rel c' n sl hp' a:=by
 refine⟨h.defers,h.size,hb,fun i=>(h.slots i).keep k,fun t e hr=> ?_,fun t hn=> ?_,h4,h5,h6⟩
 ·rw [k.ρ]at hr
  by_cases ht:T t
  ·exact(h3 t ht).1 e hr
  ·obtain⟨e1,e2,e0,e3⟩:=h1 t ht
   rw [e1]at hr
   exact(h.ents t e hr).keep k e2 e0 e3 (h2 t ht)
 ·rw [k.ρ]at hn
  by_cases ht:T t
  ·exact(h3 t ht).2 hn
  ·obtain⟨e1,e2,_,e3⟩:=h1 t ht
   rw [e1]at hn
   rw [e2];exact h.off t hn
theorem ziG {ρ:List AV} {gs:Gd} {e e':Ent} (k:zeF ρ gs) (hn: ∀hs f,e≠ .gd hs f):Res ρ (some (zeG gs e)) e'↔e'=e:=by
 cases gs with
 |nil=>
  cases e<;>first|(simp [zeG,Res,eq_comm];done)|exact absurd rfl (hn _ _)
 |cons g gs=>simp [zeG,Res,k,eq_comm]
theorem SR.mkGd {c:Cx} {s:SV} {v:Value} (h:SR c [s] [v]) (gs:Gd) (k:zeF c.ρ gs:=by exact fun _ hh=>absurd hh List.not_mem_nil):SR c [mkGd gs s] [v]:=by
 cases gs with
 |nil=>exact h
 |cons g gs=>exact .gd (fun _=>h) (fun hn=>absurd k hn) .nil
def Cx.new (c:Cx) (t:Nat) (o:Obj) (hv:Value) (O:List Nat):Cx:=
 {c with w:=c.w.alloc o,G:=fun u=>if u=t then⟨[c.w.heap.size],O⟩else c.G u,K:=fun u g=>c.K u g∨(u=t∧g=0),H:=fun u g=>if u=t then hv else c.H u g,U:=fun u=>c.U u∨u=t,E:=fun u=>if u=t then 0 else c.E u}
theorem Cx.new_M {c:Cx} {t:Nat} {o:Obj} {hv:Value} {O:List Nat} {b:Nat} (h:(c.new t o hv O).M b):c.M b∨b=c.w.heap.size:=by
 obtain⟨u,hu⟩:=h
 simp only [Cx.new]at hu
 split at hu
 ·simp at hu;exact .inr hu
 ·exact .inl ⟨u,hu⟩
theorem Cx.new_keep {c:Cx} {t:Nat} {o:Obj} {hv:Value} {O:List Nat} (hk: ∀g,¬c.K t g):zm4 c (c.new t o hv O):=by
 refine⟨rfl,fun b hb hok=>⟨fun hm=> ?_,hok.2⟩,fun b hb _=>Below.heap_alloc _ _ _ hb,fun u g h=>⟨.inl h, ?_⟩,fun u g h=> ?_⟩
 ·rcases Cx.new_M hm with h|h
  ·exact hok.1 h
  ·omega
 ·simp only [Cx.new]
  rw [if_neg];rintro rfl;exact hk g h
 ·have hu:u≠t:=by rintro rfl;exact hk g h
  have e1:(c.new t o hv O).E u=c.E u:=by simp only [Cx.new,if_neg hu]
  have e2:(c.new t o hv O).G u=c.G u:=by simp only [Cx.new,if_neg hu]
  rw [e1]
  exact⟨Nat.le_refl _,fun _=>⟨e2,fun b _ hb=>Below.heap_alloc _ _ _ hb⟩⟩
theorem zAZ.new {c:Cx} (h:zAZ c) (t:Nat) (ht: ¬c.U t) (o:Obj) (hv:Value) (O:List Nat):zAZ (c.new t o hv O):=
 ⟨h.os,h.tape,h.output,Nat.le_trans h.size (by simp [Cx.new]),fun u v hp=>⟨.inl (h.pins u v hp).1,fun hk=>by
  have hu:u≠t:=fun hh=>ht (hh▸(h.pins u v hp).1)
  simp only [Cx.new,if_neg hu]
  exact(h.pins u v hp).2 (hk.resolve_right fun hh=>hu hh.1)⟩,fun b hb hm=>(Below.heap_alloc _ _ _ (Nat.lt_of_lt_of_le hb h.size)).trans (h.block b hb hm)⟩
theorem Rel.new {c:Cx} {n:Nat} {sl:Nat→SV} {hp:Nat→Option Ent} {a:Act} (h:Rel c n sl hp a) {t:Nat} (ht: ¬c.U t) (o:Obj) (hv:Value) (e:Ent) (gs:Gd) (k:zeF c.ρ gs) (hne: ∀hs f,e≠ .gd hs f)
  (he:zkI (c.new t o hv []) t e):Rel (c.new t o hv []) n sl (zeH hp [(t,zeG gs e)]) a:=by
 have hk: ∀g,¬c.K t g:=fun g hg=>ht (h.usedK t g hg)
 have hno:hp t=none:=by
  cases hh:hp t with
  |none=>rfl
  |some e=>exact absurd (h.usedH t e hh) ht
 have hemp:=h.off t (by rw [hno];simp [Res])
 have hup: ∀u,zeH hp [(t,zeG gs e)] u=if u=t then some (zeG gs e)else hp u:=fun u=>rfl
 refine h.change (fun u=>u=t) (Cx.new_keep hk) (h.base.new t ht ..) (fun u hu=>⟨by rw [hup,if_neg hu],by simp [Cx.new,hu],by simp [Cx.new,hu],fun g hg=>hg.resolve_right (fun hh=>hu hh.1)⟩)
  (fun u hu b hb=>Below.heap_alloc _ _ _ (h.gw.inb u b (by simp [GI.own,hb]))) (fun u hu=> ?_) ?_ (fun u g hg=>hg.imp (h.usedK u g) (·.1)) (fun u e' hh=> ?_)
 ·subst hu
  rw [hup,if_pos rfl]
  exact⟨fun e' hr=>by rw [(ziG k hne).1 hr];exact he,fun hn=>absurd ((ziG k hne).2 rfl) (hn e)⟩
 ·have hG: ∀u,((c.new t o hv []).G u)=if u=t then⟨[c.w.heap.size], []⟩else c.G u:=fun u=>rfl
  refine⟨fun u=> ?_,fun u u' huu b hb=> ?_,fun u b hb=> ?_,fun u b hb=> ?_⟩
  ·rw [hG];split
   ·simp [GI.own]
   ·exact h.gw.nodup u
  ·rw [hG]at hb ⊢
   split at hb
   ·rename_i hu
    simp [GI.own]at hb
    rw [if_neg (fun hh=>huu (hu.trans hh.symm))]
    intro hb'
    have:=h.gw.inb u' b hb'
    omega
   ·split
    ·simp only [GI.own,List.append_nil,List.mem_singleton]
     intro hh
     have:=h.gw.inb u b hb
     omega
    ·exact h.gw.disj u u' huu b hb
  ·rw [hG]at hb
   split at hb
   ·simp [GI.own]at hb
    exact .inl (by rw [hb];exact h.base.size)
   ·exact h.gw.allow u b hb
  ·rw [hG]at hb
   simp only [Cx.new,World.size_alloc]
   split at hb
   ·simp [GI.own]at hb;omega
   ·have:=h.gw.inb u b hb;omega
 ·rw [hup]at hh
  split at hh
  ·rename_i hu;exact .inr hu
  ·exact .inl (h.usedH u e' hh)
end Go.Proofs.YtecngjbpbnfegaaGreatDoor
end
section
namespace Go.Proofs.YtecngjbpbnfegaaGreatDoor
open Go.RowKit
def AV.scalar:AV→Bool
 | .int .. =>true
 | .bool _=>true
 | .str _=>true
 |_=>false
def Cn.den (ρ:List AV):Cn→Prop
 | .dfd x=>x.den ρ≠ .undef
 | .agg x n=> ∃cs,x.den ρ= .agg cs∧cs.length=n
 | .cells x _=>(∀cs,x.den ρ≠ .agg cs)∧ ∀cs,x.den ρ≠ .tup cs
 | .inb i x sz=> ∃kk k m,i.den ρ= .int kk k∧0≤k∧(x.den ρ).len= .int .i64 m∧k<m∧((x.den ρ).nth k.toNat).cells.length=sz
 | .inbS i x=> ∃kk k s,i.den ρ= .int kk k∧x.den ρ= .str s∧0≤k∧k<s.length
 | .winS x lo hi=> ∃ka a kb b s,lo.den ρ= .int ka a∧hi.den ρ= .int kb b∧x.den ρ= .str s∧0≤a∧a≤b∧b≤s.length
 | .win x lo hi=> ∃ka a kb b m,lo.den ρ= .int ka a∧hi.den ρ= .int kb b∧(x.den ρ).len= .int .i64 m∧0≤a∧a≤b∧b≤m
 | .room x y bytes=> ∃m k,(x.den ρ).len= .int .i64 m∧(y.den ρ).len= .int .i64 k∧(m+k)*bytes≤140737488355328∧m+k≤140737488355328
 | .roomS x y=> ∃a b,x.den ρ= .str a∧y.den ρ= .str b∧a.length+b.length≤9223372036854775807
 | .mkroom n bytes=> ∃kk k,n.den ρ= .int kk k∧0≤k∧k*bytes≤140737488355328∧k≤140737488355328
 | .nz x=> ∃k n,x.den ρ= .int k n∧n≠0
 | .nn x=> ∃k n,x.den ρ= .int k n∧0≤n
 | .isref x n=> ∃y,x.den ρ= .ref y∧n≤y.cells.length
 | .issl x sz=> ∃xs,x.den ρ= .sl xs∧ ∀y∈xs,y.cells.length=sz
 | .flat x n g=>(x.den ρ).cells.length=n∧(∀y∈(x.den ρ).cells,y.scalar=true)∧(g=true→ ∃cs,x.den ρ= .agg cs)∧(g=false→(x.den ρ).scalar=true)
 | .flatS x sz=> ∃xs,x.den ρ= .sl xs∧ ∀y∈xs,y.cells.length=sz∧ ∀z∈y.cells,z.scalar=true
 | .kinds x ks=> ∃cs,x.den ρ= .agg cs∧cs.map AV.sk=ks.map some
theorem hc1 {ρ:List AV} {q:Cn} {l:List Cn} (h: ∀r∈q::l,r.den ρ):q.den ρ:=h q (by simp)
theorem zfT {w:World} {vs:List Value} {xs:List AV} {f:List Nat} (h:Rd w vs xs f) (hx: ∀x∈xs,x.scalar=true):f= []:=by
 induction h with
 |nil=>rfl
 |int _ _ ih=>exact ih fun x hm=>hx x (by simp [hm])
 |bool _ ih=>exact ih fun x hm=>hx x (by simp [hm])
 |str _ _ ih=>exact ih fun x hm=>hx x (by simp [hm])
 |snil _ _=>have:=hx _ List.mem_cons_self;simp [AV.scalar]at this
 |scons _ _ _ _ _ _ _ _ _ _ _ _=>have:=hx _ List.mem_cons_self;simp [AV.scalar]at this
 |agg _ _ _ _ _=>have:=hx _ List.mem_cons_self;simp [AV.scalar]at this
 |tup _ _ _ _=>have:=hx _ List.mem_cons_self;simp [AV.scalar]at this
 |ref _ _ _ _ _ _=>have:=hx _ List.mem_cons_self;simp [AV.scalar]at this
 |fn _ _ _ _=>have:=hx _ List.mem_cons_self;simp [AV.scalar]at this
 |nilp _ _=>have:=hx _ List.mem_cons_self;simp [AV.scalar]at this
structure Pre (P:Program) (c:Cx) (n nx:Nat) (sl:Nat→SV) (hp:Nat→Option Ent) (a:Act) (sl0:Nat→SV) (hp0:Nat→Option Ent) (o:Oper) (gs:Gd):Prop where
 rel:Rel c n sl hp a
 gs:zeF c.ρ gs
 sl: ∀t,Operand.tmp t∈o.op.operands→sl0 t=sl t
 hp: ∀t e,hp0 t=some e→hp t=some e
 new: ∀t,nx≤t→t<nx+999→ ¬c.U t
structure zza (c c':Cx) (nx:Nat):Prop where
 ρ:c'.ρ=c.ρ
 A:c'.A=c.A
 w0:c'.w0=c.w0
 Mu:c'.Mu=c.Mu
 U: ∀t,c'.U t→c.U t∨(nx≤t∧t<nx+zao)
theorem zza.refl (c:Cx) (nx:Nat):zza c c nx:=⟨rfl,rfl,rfl,rfl,fun _ h=> .inl h⟩
def zbJ (P:Program) (o:Oper) (c:Cx) (n nx:Nat) (sl:Nat→SV) (hp:Nat→Option Ent) (gs:Gd) (a:Act) (e:Eff):Prop:=
 ∀(next:Act→World→Prop) (Q:Exit→Act→World→Prop),(∀a' c',zza c c' nx→Rel c' n (zjh n sl o.dst (mkGd gs e.val)) (zeH hp e.ent) a'→next a' c'.w)→o.wp P a c.w next Q
section
variable {P:Program} {c:Cx} {n nx:Nat} {sl sl0:Nat→SV} {hp hp0:Nat→Option Ent} {a:Act} {o:Oper} {gs:Gd}
theorem Pre.eh (h:Pre P c n nx sl hp a sl0 hp0 o gs):EH c hp0:=fun t e hr=>h.rel.ents t e (by
 cases ho:hp0 t with
 |none=>rw [ho]at hr;exact hr.elim
 |some e'=>rw [h.hp t e' ho];rwa [ho]at hr)
theorem Pre.opd (h:Pre P c n nx sl hp a sl0 hp0 o gs) {x:Operand} {s:SV} (hx:zan sl0 gs x=some s) (hm:x∈o.op.operands):SR c [s] [a.eval x]:=
 zhZ hx (fun t ht=>by subst ht;rw [h.sl t hm];exact h.rel.slots t) h.gs
theorem zbJ.pure (h:Pre P c n nx sl hp a sl0 hp0 o gs) {e:Eff} {v:Value} (hr:(execOp a.eval o).run P c.w= .ok (.value v) c.w) (hv:SR c [e.val] [v]) (he:e.ent= []):zbJ P o c n nx sl hp gs a e:=by
 intro next Q hk
 unfold Oper.wp
 rw [hr,Oper.upon_value]
 exact hk _ c (zza.refl _ _) (by rw [he];exact h.rel.put (hv.mkGd gs h.gs) o.dst)
theorem zbJ.skip (h:Pre P c n nx sl hp a sl0 hp0 o gs) {e:Eff} (hr:(execOp a.eval o).run P c.w= .ok .skip c.w) (hv:e.val= .undef) (he:e.ent= []):zbJ P o c n nx sl hp gs a e:=by
 intro next Q hk
 unfold Oper.wp
 rw [hr,Oper.upon_skip]
 exact hk _ c (zza.refl _ _) (by rw [he,hv];exact h.rel.put ((SR.undef .nil).mkGd gs h.gs) o.dst)
theorem zjx {v:Value} {x:AV} {cs:List AV} {w:World} {f:List Nat} (h:Rd w [v] [x] f) (hx:x= .agg cs): ∃as,v= .agg as.toArray∧(∀u∈as,u.oneCell'=true)∧Rd w as cs f:=by
 subst hx
 rcases h.kind with h|h|h|h|h|h|h|h|h|h
 ·obtain⟨_,_,_,h,_⟩:=h;cases h
 ·obtain⟨_,_,h,_⟩:=h;cases h
 ·obtain⟨_,_,h,_⟩:=h;cases h
 ·obtain⟨_,_,_,h,_⟩:=h;cases h
 ·obtain⟨_,_,_,_,_,_,_,_,_,_,_,_,h,_⟩:=h;cases h
 ·obtain⟨as,cs',h1,h2,h3⟩:=h;cases h2;exact⟨as,h1,h3⟩
 ·obtain⟨_,_,_,h,_⟩:=h;cases h
 ·obtain⟨_,_,_,_,_,_,_,h,_⟩:=h;cases h
 ·obtain⟨_,_,_,_,h,_⟩:=h;cases h
 ·obtain⟨_,h,_⟩:=h;cases h
theorem zhn {v:Value} {x:AV} {k:IntKind} {m:Int} {w:World} {f:List Nat} (h:Rd w [v] [x] f) (hx:x= .int k m):v= .int k m∧InK k m:=by
 subst hx;cases h;exact⟨rfl,by assumption⟩
theorem zgG {v:Value} {x:AV} {b:Bool} {w:World} {f:List Nat} (h:Rd w [v] [x] f) (hx:x= .bool b):v= .bool b:=by
 subst hx;cases h;rfl
theorem zrp {v:Value} {x:AV} {l:List UInt8} {w:World} {f:List Nat} (h:Rd w [v] [x] f) (hx:x= .str l): ∃s:ByteArray,v= .string s∧l=s.data.toList∧s.size≤9223372036854775807:=by
 generalize hy:AV.str l=y at hx
 subst hx;cases h<;>cases hy
 exact⟨_,rfl,rfl,by assumption⟩
theorem zyU {v:Value} {x:AV} {y:AV} {w:World} {f:List Nat} (h:Rd w [v] [x] f) (hx:x= .ref y): ∃b,v= .pointer (some ⟨b,0,none⟩):=by
 subst hx;cases h;exact⟨_,rfl⟩
theorem zAq {v:Value} {x:AV} {cs:List AV} {w:World} {f:List Nat} (h:Rd w [v] [x] f) (hx:x= .tup cs): ∃as,v= .tuple as.toArray∧Rd w as cs f:=by
 subst hx
 cases h with
 |tup h1 h2=>cases h2;exact⟨_,rfl,by simpa using h1⟩
theorem ztd (h:Pre P c n nx sl hp a sl0 hp0 o gs) {x:Operand} (ho:o.op= .move x∨o.op= .assign x) {s:SV} (hx:zan sl0 gs x=some s):zbJ P o c n nx sl hp gs a {val:=s}:=by
 refine zbJ.pure h (v:=a.eval x) ?_ (h.opd hx (by rcases ho with ho|ho<;>simp [ho,Op.operands])) rfl
 rcases ho with ho|ho<;>simp [execOp,ho]
theorem zsD (h:Pre P c n nx sl hp a sl0 hp0 o gs) {x:Operand} (ho:o.op= .nilCheck x) {e:Eff} {sg:SgT} {nv:Nat} (he:zb2 P sg sl0 hp0 nv nx gs o=some e) (hc: ∀q∈e.chk,Cn.den c.ρ q):zbJ P o c n nx sl hp gs a e:=by
 have hm:x∈o.op.operands:=by simp [ho,Op.operands]
 simp only [zb2,ho,Option.bind_eq_some_iff]at he
 obtain⟨s,hs,he⟩:=he
 have hr:=h.opd hs hm
 have key: ∀(v:Value),a.eval x=v→(∃b:Addr,v= .pointer (some b))→(execOp a.eval o).run P c.w= .ok (.value v) c.w:=by
  rintro v hv ⟨b,rfl⟩
  simp only [execOp,ho,hv];rfl
 split at he
 ·simp at he;subst he
  obtain⟨y,hy,_⟩:=hc1 hc
  generalize ha:a.eval x=v at hr
  cases hr with
  |e h1 h2 _=>
   obtain⟨b,rfl⟩:=zyU h1 hy
   exact zbJ.pure h (key _ ha ⟨_,rfl⟩) (.pptr h1 h2 .nil) rfl
 ·simp at he;subst he
  generalize ha:a.eval x=v at hr
  cases hr with
  |bptr h1 h2 _=>exact zbJ.pure h (key _ ha ⟨_,rfl⟩) (.bptr h1 h2 .nil) rfl
 ·simp at he;subst he
  generalize ha:a.eval x=v at hr
  cases hr with
  |rptr h1 h2 h3 h4 h5 _=>exact zbJ.pure h (key _ ha ⟨_,rfl⟩) (.rptr h1 h2 h3 h4 h5 .nil) rfl
 ·simp at he;subst he
  generalize ha:a.eval x=v at hr
  cases hr with
  |eptr h1 h2 h3 h4 h5 h6 _=>exact zbJ.pure h (key _ ha ⟨_,rfl⟩) (.eptr h1 h2 h3 h4 h5 h6 .nil) rfl
 ·simp at he;subst he
  generalize ha:a.eval x=v at hr
  cases hr with
  |pptr h1 h2 _=>exact zbJ.pure h (key _ ha ⟨_,rfl⟩) (.pptr h1 h2 .nil) rfl
 ·rename_i b g m q y i sz p
  split at he
  ·rename_i hv
   simp at he;subst he
   have hE:=znv h.eh h.gs hv
   generalize ha:a.eval x=v at hr
   cases hr with
   |vptr h1 h2 h3 _=>
    obtain⟨_,_,_,_,_,_,_,_,_,_,_,_,rfl⟩:=h3 hE
    exact zbJ.pure h (key _ ha ⟨_,rfl⟩) (.vptr h1 h2 h3 .nil) rfl
  ·cases he
 ·cases he
theorem zrl {t:TypeId} (h:P.cellsOf t≠0) (w:World):(sizeOf t).run P w= .ok (P.cellsOf t) w:=by
 unfold Program.cellsOf at h ⊢
 cases hi:P.info? t with
 |none=>simp [hi]at h
 |some i=>simp [sizeOf,typeInfo,hi]
theorem zfz {t:TypeId} (h:zlS P t=true) (w:World):(sizeOf t).run P w= .ok (P.cellsOf t) w:=by
 unfold zlS at h
 unfold Program.cellsOf
 cases hi:P.info? t with
 |none=>simp [hi]at h
 |some i=>simp [sizeOf,typeInfo,hi]
theorem zjv {t:TypeId} (h:zlS P t=true) (w:World):(isAgg t).run P w= .ok (zaY P t) w:=by
 unfold zlS at h
 cases hu:P.underlying t with
 |none=>simp [hu]at h
 |some d=>
  simp only [isAgg,zaY,hu]
  cases d<;>simp [run_underlying hu]
theorem ztW {w:World} {p:Addr} {v:Value} (h:w.cell? p=some v):(load p).run P w= .ok v w:=by
 simp only [load,Sem.run,h]
theorem ziw {w:World} {b:Nat}: ∀(vs:List Value) (off i:Nat) (acc:Array Value),(∀j u,vs[j]?=some u→w.cell? ⟨b,off+i+j,none⟩=some u)→
  (loadCellsFrom ⟨b,off,none⟩ i vs.length acc).run P w= .ok (acc++vs.toArray) w
 | [],off,i,acc,h=>by simp [loadCellsFrom]
 |v::vs,off,i,acc,h=>by
  have h0:=h 0 v rfl
  have ih:=ziw (w:=w) (b:=b) vs off (i+1) (acc.push v) (fun j u hu=>by
   have:=h (j+1) u (by simpa using hu)
   rw [show off+(i+1)+j=off+i+(j+1)from by omega];exact this)
  simp only [Nat.add_zero]at h0
  simp only [List.length_cons,loadCellsFrom,Addr.add_lit]
  simp [ztW h0,ih]
theorem zgE {w:World} {t:TypeId} {b off:Nat} (h:zlS P t=true) (vs:List Value) (hl:zaY P t=true→vs.length=P.cellsOf t) (hl':zaY P t=false→vs.length=1)
  (hc: ∀j u,vs[j]?=some u→w.cell? ⟨b,off+j,none⟩=some u):(Instr.loadAt t (.pointer (some ⟨b,off,none⟩))).run P w= .ok (if zaY P t then .agg vs.toArray else vs.headD undef) w:=by
 simp only [Instr.loadAt,Instr.sureAddr,loadVar]
 cases ha:zaY P t with
 |true=>
  have:=ziw (P:=P) (w:=w) (b:=b) vs off 0 #[] (by simpa using hc)
  rw [hl ha]at this
  simp [zjv h,ha,zfz h,loadCells,this]
 |false=>
  obtain⟨v,rfl⟩:=List.length_eq_one_iff.1 (hl' ha)
  have:=hc 0 v rfl
  simp only [Nat.add_zero]at this
  simp [zjv h,ha,ztW this,this]
theorem SR.ptrOff {s s':SV} {v:Value} {k:Nat} (h:SR c [s] [v]) (hv: ∀t g m q y i sz p,s= .vptr t g m q y i sz p→c.E t=m) (hp:Go.Proofs.YtecngjbpbnfegaaGreatDoor.ptrOff s k=some s'): ∃b off,v= .pointer (some ⟨b,off,none⟩)∧SR c [s'] [.pointer (some ⟨b,off+k,none⟩)]:=by
 cases h with
 |bptr h1 h2 _=>simp [Go.Proofs.YtecngjbpbnfegaaGreatDoor.ptrOff]at hp;subst hp;exact⟨_,_,rfl, .bptr h1 h2 .nil⟩
 |rptr h1 h2 h3 h4 h5 _=>
  simp [Go.Proofs.YtecngjbpbnfegaaGreatDoor.ptrOff]at hp;subst hp
  have:=SR.rptr (c:=c) (sz:=‹_›) (o:=‹_›) h1 h2 h3 h4 h5 .nil
  refine⟨_,_,rfl, ?_⟩
  rw [Nat.add_assoc];exact .rptr h1 h2 h3 h4 h5 .nil
 |eptr h1 h2 h3 h4 h5 h6 _=>simp [Go.Proofs.YtecngjbpbnfegaaGreatDoor.ptrOff]at hp;subst hp;exact⟨_,_,rfl,by rw [Nat.add_assoc];exact .eptr h1 h2 h3 h4 h5 h6 .nil⟩
 |pptr h1 h2 _=>simp [Go.Proofs.YtecngjbpbnfegaaGreatDoor.ptrOff]at hp;subst hp;exact⟨_,_,rfl, .pptr h1 h2 .nil⟩
 |vptr h1 h2 h3 _=>
  simp [Go.Proofs.YtecngjbpbnfegaaGreatDoor.ptrOff]at hp;subst hp
  obtain⟨b,off,len,cap,kk,kv,q1,q2,q3,q4,q5,q6,rfl⟩:=h3 (hv _ _ _ _ _ _ _ _ rfl)
  exact⟨_,_,rfl, .vptr h1 h2 (fun _=>⟨b,off,len,cap,kk,kv,q1,q2,q3,q4,q5,q6,by rw [Nat.add_assoc]⟩) .nil⟩
 |_=>simp [Go.Proofs.YtecngjbpbnfegaaGreatDoor.ptrOff]at hp
theorem SR.asPtr {s:SV} {v:Value} (h:SR c [s] [v]) (hc: ∀q∈(Go.Proofs.YtecngjbpbnfegaaGreatDoor.asPtr s).2,q.den c.ρ):SR c [(Go.Proofs.YtecngjbpbnfegaaGreatDoor.asPtr s).1] [v]:=by
 cases s with
 |e x=>
  cases h with
  |e h1 h2 _=>
   obtain⟨y,hy,_⟩:=hc1 hc
   obtain⟨b,rfl⟩:=zyU h1 hy
   exact .pptr h1 h2 .nil
 |_=>exact h
theorem zq0 (h:Pre P c n nx sl hp a sl0 hp0 o gs) {t:TypeId} {x:Operand} {f:Nat} (ho:o.op= .fieldAddr t x f) {e:Eff} {sg:SgT} {nv:Nat} (he:zb2 P sg sl0 hp0 nv nx gs o=some e) (hc: ∀q∈e.chk,Cn.den c.ρ q):zbJ P o c n nx sl hp gs a e:=by
 have hm:x∈o.op.operands:=by simp [ho,Op.operands]
 simp only [zb2,ho,Option.bind_eq_some_iff]at he
 obtain⟨s,hs,he⟩:=he
 have hr:=h.opd hs hm
 split at he
 ·rename_i fs hu
  split at he
  ·rename_i fd hf
   split at he
   ·cases he
   ·rename_i hz
    simp only [not_or,Bool.not_eq_true',Bool.not_eq_false]at hz
    obtain⟨hz,hpo⟩:=hz
    obtain⟨s',hs',rfl⟩:=Option.map_eq_some_iff.1 he
    obtain⟨b,off,hv,hr'⟩:=(hr.asPtr hc).ptrOff (fun t g m q y i sz p hh=>znv (t:=t) h.eh h.gs (by
     cases s with
     |vptr=>simp only [asPtr,SV.vptr.injEq]at hh;obtain⟨rfl,_,rfl,_⟩:=hh;exact hpo
     |e=>simp [asPtr]at hh
     |_=>simp [asPtr]at hh)) hs'
    refine zbJ.pure h ?_ hr' rfl
    simp [execOp,ho,Instr.fieldAt,run_underlying hu,hf,hv,Instr.sureAddr,fieldPlace,zrl hz,hz,Addr.add_lit]
  ·cases he
 ·cases he
theorem zjH {sz:Nat}: ∀(ys:List AV),(∀y∈ys,y.cells.length=sz)→ ∀k y,ys[k]?=some y→ ∀o m,o+m≤sz→((zaQ ys).drop (k*sz+o)).take m=(y.cells.drop o).take m
 | [],_,k,y,h,_,_,_=>by simp at h
 |z::ys,hs,0,y,h,o,m,hm=>by
  simp at h;subst h
  have hz:=hs z (by simp)
  simp only [zaQ,List.flatMap_cons,Nat.zero_mul,Nat.zero_add]
  rw [List.drop_append_of_le_length (by omega),List.take_append_of_le_length (by simp;omega)]
 |z::ys,hs,k+1,y,h,o,m,hm=>by
  have hz:=hs z (by simp)
  have ih:=zjH ys (fun q hq=>hs q (by simp [hq])) k y (by simpa using h) o m hm
  rw [←ih]
  simp only [zaQ,List.flatMap_cons]
  rw [show(k+1)*sz+o=z.cells.length+(k*sz+o)from by rw [hz,Nat.add_mul];omega,List.drop_append,List.drop_eq_nil_of_le (by omega)]
  simp
theorem ziD {sz:Nat}: ∀(ys:List AV),(∀y∈ys,y.cells.length=sz)→(zaQ ys).length=ys.length*sz
 | [],_=>by simp [zaQ]
 |z::ys,hs=>by
  have:=ziD ys (fun q hq=>hs q (by simp [hq]))
  simp only [zaQ,List.flatMap_cons,List.length_append,List.length_cons]at this ⊢
  rw [this,hs z (by simp),Nat.add_mul];omega
theorem znW {xs:List AV} {k:Nat} (h:k<xs.length):xs[k]?=some ((AV.sl xs).nth k):=by simp [AV.nth,h]
theorem Rd.fldOf {w:World} {vs:List Value} {x:AV} {f:List Nat} (h:Rd w vs x.cells f) (h9: ∀u∈vs,u.oneCell'=true) (o m:Nat) (g:Bool) (hm:o+m≤x.cells.length) (h1:g=false→m=1):
  ∃q,(∀b∈q,b∈f)∧Rd w [if g then .agg ((vs.drop o).take m).toArray else((vs.drop o).take m).headD undef] [x.fld o m g] q:=by
 obtain⟨q,hq,hr⟩:=h.piece o m
 cases g with
 |true=>exact⟨q,hq,by have:=Rd.agg (fun u hu=>h9 u (List.mem_of_mem_drop (List.mem_of_mem_take hu))) hr .nil;simpa [AV.fld]using this⟩
 |false=>
  have:=h1 rfl
  subst this
  have hl:=h.len
  have e1:(vs.drop o).take 1= [vs[o]'(by omega)]:=by rw [List.drop_eq_getElem_cons (by omega),List.take_succ_cons,List.take_zero]
  have e2:(x.cells.drop o).take 1= [x.cells[o]'(by omega)]:=by rw [List.drop_eq_getElem_cons (by omega),List.take_succ_cons,List.take_zero]
  rw [e1,e2]at hr
  refine⟨q,hq, ?_⟩
  simpa [e1,AV.fld,show o<x.cells.length by omega]using hr
theorem zpy {w:World} {b off len cap:Nat} {xs:AV} {f:List Nat} {t:TypeId} {k sz fo:Nat} (hr:Rd w [.slice (some ⟨b,off,none⟩) len cap] [xs] f) (hk:k<len) (hsz:(xs.nth k).cells.length=sz) (ht:zlS P t=true) (hfo:fo+P.cellsOf t≤sz) (hg:zaY P t=true∨P.cellsOf t=1):
  ∃v q,(Instr.loadAt t (.pointer (some ⟨b,off+k*sz+fo,none⟩))).run P w= .ok v w∧(∀c∈q,c∈f.tail)∧Rd w [v] [(xs.nth k).fld fo (P.cellsOf t) (zaY P t)] q:=by
 cases hr with
 |snil=>omega
 |scons hb h1 h2 h3 h4 h5 h6 h6' h7 h8=>
  rename_i ys cs C ty fz sz' f1 f2
  have hy:=znW (xs:=ys) (k:=k) (by omega)
  have hs':sz'=sz:=by rw [←hsz];exact(h4 _ (List.mem_of_getElem? hy)).symm
  subst hs'
  have hfl:=ziD ys h4
  have hkk:(k+1)*sz'≤ys.length*sz':=Nat.mul_le_mul_right _ (by omega)
  rw [Nat.add_mul]at hkk
  have hp:=zjH ys h4 k _ hy 0 sz' (by omega)
  obtain⟨q0,hq0,hr0⟩:=h7.piece (k*sz'+0) sz'
  rw [hp]at hr0
  have hcl:(((AV.sl ys).nth k).cells.drop 0).take sz'=((AV.sl ys).nth k).cells:=by rw [List.drop_zero,List.take_of_length_le (by omega)]
  rw [hcl]at hr0
  have hlen:=h7.len
  obtain⟨q,hq,hv⟩:=hr0.fldOf (fun u hu=>h6' u (List.mem_of_mem_drop (List.mem_of_mem_take hu))) fo (P.cellsOf t) (zaY P t) (by omega) (fun h=>by rcases hg with h'|h';rw [h]at h';cases h';exact h')
  have hcs:(((cs.drop (k*sz'+0)).take sz').drop fo).take (P.cellsOf t)=(cs.drop (k*sz'+fo)).take (P.cellsOf t):=by
   rw [List.drop_take,List.take_take,List.drop_drop,Nat.add_zero,Nat.min_eq_left (by omega)]
  rw [hcs]at hv
  have hlc:((cs.drop (k*sz'+fo)).take (P.cellsOf t)).length=P.cellsOf t:=by
   rw [List.length_take,List.length_drop];omega
  refine⟨_,q,zgE ht ((cs.drop (k*sz'+fo)).take (P.cellsOf t)) (fun _=>hlc) (fun h=> ?_) (fun j u hu=> ?_),fun z hz=> ?_,hv⟩
  ·rw [hlc];rcases hg with h'|h';rw [h]at h';cases h';exact h'
  ·rw [zax hb]
   rw [List.getElem?_take]at hu
   split at hu
   ·rw [List.getElem?_drop]at hu
    have:=h6 _ _ hu
    rw [←this];congr 1;omega
   ·cases hu
  ·have:=hq0 z (hq z hz)
   simp [this]
end
end Go.Proofs.YtecngjbpbnfegaaGreatDoor
end
section
namespace Go.Proofs.YtecngjbpbnfegaaGreatDoor
open Go.RowKit
abbrev JK:=List AV→Prop
abbrev LK:=List JK→Xt→St→List AV→Prop
def zoD (body:JK→List AV→Prop):Nat→List AV→Prop
 |0,_=>False
 |n+1,vs=>body (zoD body n) vs
section
variable (Rt:Nat→List AV→AV→Prop) (R:AV→Prop)
def zii (f:Nat ⊕ E) (args:List AV) (ρ:List AV) (r:AV):Prop:=
 match f with
 | .inl f=>Rt f args r
 | .inr x=> ∃g caps,x.den ρ= .fn g caps∧Rt (1000000+g) (args++caps) r∧ ∀y∈r.cells,y.scalar=true
def Tr.den:Tr→LK→List JK→List AV→Prop
 | .leaf x σ,L,js,ρ=>L js x σ ρ
 | .ret r,_,_,ρ=>R (r.den ρ)
 | .jmp d es,_,js,ρ=>match js[d]? with|some j=>j (es.den ρ)|none=>False
 | .ite c a b,L,js,ρ=> ∃t,c.den ρ= .bool t∧(t=true→a.den L js ρ)∧(t=false→b.den L js ρ)
 | .chk gs c k,L,js,ρ=>(zeF ρ gs→c.den ρ)∧k.den L js ρ
 | .call gs f args k,L,js,ρ=> ∃r,(zeF ρ gs→zii Rt f (args.den ρ) ρ r)∧k.den L js (ρ++ [r])
 | .nilq gs x k,L,js,ρ=> ∀b,(zeF ρ gs→b=true→x.den ρ= .sl [])→k.den L js (ρ++ [.bool b])
 | .stuck,_,_,_=>False
 | .join t k,L,js,ρ=>t.den L ((fun vs=>k.den L js (ρ++vs))::js) ρ
 | .loop i b k,L,js,ρ=> ∃n,zoD (fun W vs=>b.den L (W::(fun us=>k.den L js (ρ++us))::js) (ρ++vs)) n (i.den ρ)
end
def Tr.Leaf:Tr→Xt→St→Prop
 | .leaf x σ,y,τ=>x=y∧σ=τ
 | .ret _,_,_=>False
 | .jmp ..,_,_=>False
 | .stuck,_,_=>False
 | .ite _ a b,y,τ=>a.Leaf y τ∨b.Leaf y τ
 | .chk _ _ k,y,τ=>k.Leaf y τ
 | .call _ _ _ k,y,τ=>k.Leaf y τ
 | .nilq _ _ k,y,τ=>k.Leaf y τ
 | .join t k,y,τ=>t.Leaf y τ∨k.Leaf y τ
 | .loop _ b k,y,τ=>b.Leaf y τ∨k.Leaf y τ
theorem Tr.Leaf.norm {t:Tr} {τ:St} (h:t.Leaf .normal τ):τ∈t.norms:=by
 induction t with
 |leaf x σ=>obtain⟨rfl,rfl⟩:=h;simp [Tr.norms]
 |ret|jmp|stuck=>exact h.elim
 |ite c a b iha ihb=>simp only [Tr.norms,List.mem_append];exact h.imp iha ihb
 |chk _ _ k ih|call _ _ _ k ih|nilq _ _ k ih=>exact ih h
 |join t k iht ihk=>simp only [Tr.norms,List.mem_append];exact h.imp iht ihk
 |loop _ b k ihb ihk=>simp only [Tr.norms,List.mem_append];exact h.imp ihb ihk
theorem Tr.Leaf.noExit {t:Tr} (hn:t.firstExit=none) {j:Nat} {τ:St} (h:t.Leaf (.exit j) τ):False:=by
 induction t with
 |leaf x σ=>obtain⟨rfl,rfl⟩:=h;simp [Tr.firstExit]at hn
 |ret|jmp|stuck=>exact h.elim
 |ite c a b iha ihb=>
  simp only [Tr.firstExit]at hn
  cases ha:a.firstExit with
  |some x=>simp [ha]at hn
  |none=>simp [ha]at hn;exact h.elim (iha ha) (ihb hn)
 |chk _ _ k ih|call _ _ _ k ih|nilq _ _ k ih=>exact ih hn h
 |join a b iha ihb=>
  simp only [Tr.firstExit]at hn
  cases ha:a.firstExit with
  |some x=>simp [ha]at hn
  |none=>simp [ha]at hn;exact h.elim (iha ha) (ihb hn)
 |loop _ a b iha ihb=>
  simp only [Tr.firstExit]at hn
  cases ha:a.firstExit with
  |some x=>simp [ha]at hn
  |none=>simp [ha]at hn;exact h.elim (iha ha) (ihb hn)
inductive JLe:List JK→List JK→Prop where
 |nil:JLe [] []
 |cons {j j' js js'}:(∀vs,j vs→j' vs)→JLe js js'→JLe (j::js) (j'::js')
theorem JLe.refl: ∀js,JLe js js
 | []=> .nil
 |_::js=> .cons (fun _ h=>h) (JLe.refl js)
theorem JLe.get {js js':List JK} (h:JLe js js'): ∀{d:Nat} {j:JK},js[d]?=some j→ ∃j',js'[d]?=some j'∧ ∀vs,j vs→j' vs:=by
 induction h with
 |nil=>intro d j hd;simp at hd
 |cons h1 _ ih=>
  intro d j hd
  cases d with
  |zero=>simp at hd;subst hd;exact⟨_,rfl,h1⟩
  |succ d=>simpa using ih (by simpa using hd)
theorem JLe.app {a b c d:List JK} (h:JLe a b) (k:JLe c d):JLe (a++c) (b++d):=by
 induction h with
 |nil=>exact k
 |cons h1 _ ih=>exact .cons h1 ih
theorem JLe.len {a b:List JK} (h:JLe a b):a.length=b.length:=by induction h<;>simp_all
theorem zny {b b':JK→List AV→Prop} (h: ∀W W',(∀vs,W vs→W' vs)→ ∀vs,b W vs→b' W' vs): ∀n vs,zoD b n vs→zoD b' n vs
 |0,_,hh=>hh.elim
 |n+1,vs,hh=>h _ _ (zny h n) vs hh
def zoq (L:LK):Prop:= ∀js js' x τ ρ,JLe js js'→L js x τ ρ→L js' x τ ρ
section
variable {Rt:Nat→List AV→AV→Prop} {R:AV→Prop}
theorem Tr.den_mono (t:Tr): ∀{L L':LK} {js js':List JK} {ρ:List AV},t.den Rt R L js ρ→JLe js js'→
  (∀i i' x τ ρ',t.Leaf x τ→JLe i i'→L (i++js) x τ ρ'→L' (i'++js') x τ ρ')→t.den Rt R L' js' ρ:=by
 induction t with
 |leaf x σ=>intro L L' js js' ρ h hj hl;exact hl [] [] x σ ρ ⟨rfl,rfl⟩ .nil h
 |ret r=>intro L L' js js' ρ h hj hl;exact h
 |stuck=>intro L L' js js' ρ h hj hl;exact h
 |jmp d es=>
  intro L L' js js' ρ h hj hl
  simp only [Tr.den]at h ⊢
  cases hd:js[d]? with
  |none=>rw [hd]at h;exact h.elim
  |some j=>
   rw [hd]at h
   obtain⟨j',hd',hjj⟩:=hj.get hd
   rw [hd'];exact hjj _ h
 |ite c a b iha ihb=>
  intro L L' js js' ρ h hj hl
  obtain⟨t,h1,h2,h3⟩:=h
  exact⟨t,h1,fun ht=>iha (h2 ht) hj fun i i' x τ ρ' hf=>hl i i' x τ ρ' (.inl hf),fun ht=>ihb (h3 ht) hj fun i i' x τ ρ' hf=>hl i i' x τ ρ' (.inr hf)⟩
 |chk gs c k ih=>intro L L' js js' ρ h hj hl;exact⟨h.1,ih h.2 hj hl⟩
 |call gs f args k ih=>intro L L' js js' ρ h hj hl;obtain⟨r,h1,h2⟩:=h;exact⟨r,h1,ih h2 hj hl⟩
 |nilq gs x k ih=>intro L L' js js' ρ h hj hl;exact fun b hb=>ih (h b hb) hj hl
 |join t k iht ihk=>
  intro L L' js js' ρ h hj hl
  refine iht (js':=(fun vs=>k.den Rt R L' js' (ρ++vs))::js') h (.cons (fun vs hv=>ihk hv hj fun i i' x τ ρ' hf=>hl i i' x τ ρ' (.inr hf)) hj) fun i i' x τ ρ' hf hi hL=> ?_
  have:=hl (i++ [_]) (i'++ [_]) x τ ρ' (.inl hf) (hi.app (.cons (fun vs hv=>ihk hv hj fun i i' x τ ρ' hf=>hl i i' x τ ρ' (.inr hf)) .nil)) (by simpa using hL)
  simpa using this
 |loop i0 b k ihb ihk=>
  intro L L' js js' ρ h hj hl
  obtain⟨n,hn⟩:=h
  refine⟨n,zny (fun W W' hW vs hv=> ?_) n _ hn⟩
  have hk: ∀us,k.den Rt R L js (ρ++us)→k.den Rt R L' js' (ρ++us):=fun us hu=>ihk hu hj fun i i' x τ ρ' hf=>hl i i' x τ ρ' (.inr hf)
  refine ihb hv (.cons hW (.cons hk hj)) fun i i' x τ ρ' hf hi hL=> ?_
  have:=hl (i++ [W,_]) (i'++ [W',_]) x τ ρ' (.inl hf) (hi.app (.cons hW (.cons hk .nil))) (by simpa using hL)
  simpa using this
theorem Tr.den_js (t:Tr) {L:LK} (hL:zoq L) {js js':List JK} {ρ:List AV} (h:t.den Rt R L js ρ) (hj:JLe js js'):t.den Rt R L js' ρ:=
 t.den_mono h hj fun _ _ x τ ρ' _ hi hl=>hL _ _ x τ ρ' (hi.app hj) hl
def zBf (Rt:Nat→List AV→AV→Prop) (R:AV→Prop) (f:Nat→Xt→St→Option Tr) (L:LK) (m d:Nat):LK:=fun js x τ ρ=> ∃r d',f d' x τ=some r∧js.length+d=m+d'∧r.den Rt R L js ρ
theorem zj1 {f:Nat→Xt→St→Option Tr} {L:LK} (hL:zoq L) (m d:Nat):zoq (zBf Rt R f L m d):=by
 rintro js js' x τ ρ hj ⟨r,d',h1,h2,h3⟩
 exact⟨r,d',h1,by rw [←hj.len];exact h2,r.den_js hL h3 hj⟩
theorem Tr.sub_den (f:Nat→Xt→St→Option Tr) {L:LK} (hL:zoq L) (t:Tr): ∀{d:Nat} {t':Tr} {js:List JK} {ρ:List AV},t.sub f d=some t'→t'.den Rt R L js ρ→t.den Rt R (zBf Rt R f L js.length d) js ρ:=by
 induction t with
 |leaf x σ=>intro d t' js ρ h hd;exact⟨t',d,h,rfl,hd⟩
 |ret r=>intro d t' js ρ h hd;simp only [Tr.sub,Option.some.injEq]at h;subst h;exact hd
 |stuck=>intro d t' js ρ h hd;simp only [Tr.sub,Option.some.injEq]at h;subst h;exact hd
 |jmp i es=>intro d t' js ρ h hd;simp only [Tr.sub,Option.some.injEq]at h;subst h;exact hd
 |ite c a b iha ihb=>
  intro d t' js ρ h hd
  simp only [Tr.sub]at h
  split at h
  ·rename_i x y hx hy
   simp at h;subst h
   obtain⟨t,h1,h2,h3⟩:=hd
   exact⟨t,h1,fun ht=>iha hx (h2 ht),fun ht=>ihb hy (h3 ht)⟩
  ·cases h
 |chk g c k ih=>
  intro d t' js ρ h hd
  obtain⟨k',hk,rfl⟩:=Option.map_eq_some_iff.1 h
  exact⟨hd.1,ih hk hd.2⟩
 |call g h0 as k ih=>
  intro d t' js ρ h hd
  obtain⟨k',hk,rfl⟩:=Option.map_eq_some_iff.1 h
  obtain⟨r,h1,h2⟩:=hd
  exact⟨r,h1,ih hk h2⟩
 |nilq g x k ih=>
  intro d t' js ρ h hd
  obtain⟨k',hk,rfl⟩:=Option.map_eq_some_iff.1 h
  exact fun b hb=>ih hk (hd b hb)
 |join t k iht ihk=>
  intro d t' js ρ h hd
  simp only [Tr.sub]at h
  split at h
  ·rename_i x y hx hy
   simp at h;subst h
   have h1:=iht hx hd
   have hk: ∀vs,y.den Rt R L js (ρ++vs)→k.den Rt R (zBf Rt R f L js.length d) js (ρ++vs):=fun vs hv=>ihk hy hv
   refine t.den_mono h1 (.cons hk (JLe.refl js)) fun i i' x τ ρ' _ hi hl=> ?_
   obtain⟨r,d',e1,e2,e3⟩:=hl
   refine⟨r,d',e1, ?_,r.den_js hL e3 (hi.app (.cons hk (JLe.refl js)))⟩
   have:=hi.len
   simp only [List.length_append,List.length_cons]at e2 ⊢
   omega
  ·cases h
 |loop i0 b k ihb ihk=>
  intro d t' js ρ h hd
  simp only [Tr.sub]at h
  split at h
  ·rename_i x y hx hy
   simp at h;subst h
   obtain⟨n,hn⟩:=hd
   refine⟨n,zny (fun W W' hW vs hv=> ?_) n _ hn⟩
   have h1:=ihb hx hv
   have hk: ∀vs,y.den Rt R L js (ρ++vs)→k.den Rt R (zBf Rt R f L js.length d) js (ρ++vs):=fun vs hv=>ihk hy hv
   refine b.den_mono h1 (.cons hW (.cons hk (JLe.refl js))) fun i i' x τ ρ' _ hi hl=> ?_
   obtain⟨r,d',e1,e2,e3⟩:=hl
   refine⟨r,d',e1, ?_,r.den_js hL e3 (hi.app (.cons hW (.cons hk (JLe.refl js))))⟩
   have:=hi.len
   simp only [List.length_append,List.length_cons]at e2 ⊢
   omega
  ·cases h
end
end Go.Proofs.YtecngjbpbnfegaaGreatDoor
end
section
namespace Go.Proofs.YtecngjbpbnfegaaGreatDoor
open Go.RowKit
structure Fix where
 w0:World
 A:Al
 Mu:Nat→Prop
 pinOK: ∀t v,A.pin t=some v→ztQ t=true
def zvt (F:Fix) (ρ:List AV) (σ:St) (a:Act) (w:World):Prop:=
 ∃c:Cx,c.ρ=ρ∧c.w=w∧c.w0=F.w0∧c.A=F.A∧c.Mu=F.Mu∧ρ.length=σ.nv∧(∀t,c.U t→t<σ.nx)∧Rel c σ.sl.length (zaK σ) (zat σ.hp) a
def Xt.ex:Xt→Exit
 | .normal=> .normal
 | .exit i=> .exit i
 | .ret=> .ret
section
variable (P:Program) (sg:SgT) (Rt:Nat→List AV→AV→Prop)
def zu2:Prop:= ∀(id:Nat) (ops:Array Oper) (draw:Bool) (σ:St) (t:Tr),zyX ops=false→σ.sc=true→(σ.hp.all fun(t,_)=>decide (t<σ.nx))=true→
 zoi P sg ops draw σ.nx (List.range ops.size) [] σ=some t→ ∀(F:Fix) (R:AV→Prop) (L:LK) (js:List JK) (ρ:List AV) (a:Act) (w:World),zoq L→t.den Rt R L js ρ→zvt F ρ σ a w→
 ∀Q,(∀i x τ ρ' a' w',ρ<+:ρ'→L (i++js) x τ ρ'→zvt F ρ' τ a' w'→Q x.ex a' w')→(Code.region id ops draw).wp P Q a w
def zuP:Prop:= ∀(F:Fix) (nv:Nat) (pat τ:St) (es:List E) (ρ ρ':List AV) (a:Act) (w:World),zxI nv pat τ=some es→ρ.length=nv→ρ<+:ρ'→zvt F ρ' τ a w→zvt F (ρ++(EL.of es).den ρ') pat a w
end
section
variable {P:Program} {sg:SgT} {Rt:Nat→List AV→AV→Prop} {rs:Nat}
theorem zvt.opd {F:Fix} {ρ:List AV} {σ:St} {a:Act} {w:World} (h:zvt F ρ σ a w) {x:Operand} {s:SV} (hx:zan (zaK σ) [] x=some s): ∃c:Cx,c.ρ=ρ∧SR c [s] [a.eval x]:=by
 obtain⟨c,rfl,_,_,_,_,_,_,hr⟩:=h
 exact⟨c,rfl,zhZ hx (fun t _=>hr.slots t) (zcQ _)⟩
theorem znS {run:St→Option Tr} {nv live:Nat} {σ:St}: ∀(n:Nat) (p:St × Nat) {pat:St} {t:Tr},zpw run nv live σ n p=some (pat,t)→run pat=some t
 |0,p,pat,t,h=>by simp [zpw]at h
 |n+1,p,pat,t,h=>by
  simp only [zpw]at h
  split at h
  ·cases h
  ·rename_i t' ht
   split at h
   ·simp at h;obtain⟨rfl,rfl⟩:=h;exact ht
   ·exact znS n _ h
theorem zxF {i js:List JK} {j:JK} {d:Nat} (h:d=i.length):(i++j::js)[d]?=some j:=by subst h;simp
theorem zyh {i js:List JK} {j k:JK} {d:Nat} (h:d=i.length):(i++j::k::js)[d+1]?=some k:=by
 subst h
 rw [List.getElem?_append_right (by omega)]
 simp
def ziA (P:Program) (sg:SgT) (Rt:Nat→List AV→AV→Prop) (rs:Nat) (c:Code):Prop:=
 ∀(ex:List (Nat × Nat)) (l:Nat) (σ:St) (t:Tr),zoP P sg rs c ex l σ=some t→ ∀(F:Fix) (R:AV→Prop) (L:LK) (js:List JK) (ρ:List AV) (a:Act) (w:World),zoq L→t.den Rt R L js ρ→zvt F ρ σ a w→
  ∀Q,(∀i x τ ρ' a' w',ρ<+:ρ'→L (i++js) x τ ρ'→zvt F ρ' τ a' w'→Q x.ex a' w')→c.wp P Q a w
theorem ziA.leaf {c:Code} (h:ziA P sg Rt rs c) {ex:List (Nat × Nat)} {l:Nat} {σ:St} {t:Tr} (he:zoP P sg rs c ex l σ=some t) {F:Fix} {R:AV→Prop} {L:LK} {js:List JK} {ρ:List AV} {a:Act} {w:World} (hL:zoq L) (hd:t.den Rt R L js ρ) (hr:zvt F ρ σ a w)
  {Q:Exit→Act→World→Prop} (hq: ∀i x τ ρ' a' w',ρ<+:ρ'→t.Leaf x τ→L (i++js) x τ ρ'→zvt F ρ' τ a' w'→Q x.ex a' w'):c.wp P Q a w:=
 h ex l σ t he F R (fun js x τ ρ=>t.Leaf x τ∧L js x τ ρ) js ρ a w (fun _ _ _ _ _ hj hh=>⟨hh.1,hL _ _ _ _ _ hj hh.2⟩) (t.den_mono hd (JLe.refl js) fun _ _ _ _ _ hf hi hl=>⟨hf,hL _ _ _ _ _ (hi.app (JLe.refl js)) hl⟩) hr Q fun i x τ ρ' a' w' hp hh hs=>hq i x τ ρ' a' w' hp hh.1 hh.2 hs
theorem zvp {id:Nat} {b:Code} (ih:ziA P sg Rt rs b):ziA P sg Rt rs (.block id b):=by
 intro ex l σ t he F R L js ρ a w hL hd hr Q hq
 simp only [zoP,Option.bind_eq_some_iff]at he
 obtain⟨t0,h0,hs⟩:=he
 have h1:=Tr.sub_den _ hL t0 hs hd
 refine wp_block (ih _ _ _ _ h0 F R _ js ρ a w (zj1 hL _ _) h1 hr _ fun i x τ ρ' a' w' hp hl hrel=> ?_)
 obtain⟨r,d',e1,e2,e3⟩:=hl
 simp only [Option.some.injEq]at e1;subst e1
 have:=hq i _ τ ρ' a' w' hp e3 hrel
 cases x with
 |normal=>exact this
 |ret=>exact this
 |exit j=>
  simp only [Xt.ex,Exit.inBlock]at this ⊢
  split
  ·rename_i hj;simpa [hj,Xt.ex]using this
  ·rename_i hj;simpa [hj,Xt.ex]using this
theorem zyn (hi:zuP) {x y:Code} (ihx:ziA P sg Rt rs x) (ihy:ziA P sg Rt rs y):ziA P sg Rt rs (.seq x y):=by
 intro ex l σ t he F R L js ρ a w hL hd hr Q hq
 simp only [zoP]at he
 split at he
 ·cases he
 ·rename_i t0 h0
  refine wp_seq ?_
  split at he
  ·rename_i hn
   simp at he;subst he
   refine ihx.leaf h0 hL hd hr fun i x τ ρ' a' w' hp hf hl hrel=> ?_
   cases x with
   |normal=>have:=hf.norm;rw [hn]at this;simp at this
   |exit j=>exact hq i _ τ ρ' a' w' hp hl hrel
   |ret=>exact hq i _ τ ρ' a' w' hp hl hrel
  ·rename_i τ0 hn
   split at he
   ·cases he
   ·rename_i k hk
    have h1:=Tr.sub_den _ hL t0 he hd
    refine ihx.leaf h0 (zj1 hL _ _) h1 hr fun i x τ ρ' a' w' hp hf hl hrel=> ?_
    obtain⟨r,d',e1,e2,e3⟩:=hl
    simp only [Option.some.injEq]at e1;subst e1
    cases x with
    |normal=>
     have:=hf.norm;rw [hn]at this;simp at this;subst this
     exact ihy _ _ _ _ hk F R L _ ρ' a' w' hL e3 hrel Q fun i' x' τ' ρ'' a'' w'' hp' hl' hrel'=>hq (i'++i) x' τ' ρ'' a'' w'' (hp.trans hp') (by simpa using hl') hrel'
    |exit j=>exact hq i _ τ ρ' a' w' hp e3 hrel
    |ret=>exact hq i _ τ ρ' a' w' hp e3 hrel
  ·split at he
   ·cases he
   ·rename_i pat hpat
    split at he
    ·cases he
    ·rename_i k hk
     obtain⟨t',ht',rfl⟩:=Option.map_eq_some_iff.1 he
     have h1:=Tr.sub_den _ hL t0 ht' hd
     refine ihx _ _ _ _ h0 F R _ _ ρ a w (zj1 hL _ _) h1 hr _ fun i x τ ρ' a' w' hp hl hrel=> ?_
     obtain⟨r,d',e1,e2,e3⟩:=hl
     cases x with
     |normal=>
      obtain⟨es,hes,rfl⟩:=Option.map_eq_some_iff.1 e1
      have hd':d'=i.length:=by simp only [List.length_append,List.length_cons]at e2;omega
      simp only [Tr.den,zxF hd']at e3
      obtain⟨c0,hc1,_,_,_,_,hnv,_⟩:=hr
      have hrel':=hi F _ pat τ es ρ ρ' a' w' hes hnv hp hrel
      refine ihy _ _ _ _ hk F R L js _ a' w' hL e3 hrel' Q fun i' x' τ' ρ'' a'' w'' hp' hl' hrel'=>hq i' x' τ' ρ'' a'' w'' ((List.prefix_append _ _).trans hp') hl' hrel'
     |exit j=>simp only [Option.some.injEq]at e1;subst e1;exact hq (i++ [_]) _ τ ρ' a' w' hp (by simpa [Tr.den]using e3) hrel
     |ret=>simp only [Option.some.injEq]at e1;subst e1;exact hq (i++ [_]) _ τ ρ' a' w' hp (by simpa [Tr.den]using e3) hrel
theorem zwb {x:Operand} {p q:Code} (ihp:ziA P sg Rt rs p) (ihq:ziA P sg Rt rs q):ziA P sg Rt rs (.cond x p q):=by
 intro ex l σ t he F R L js ρ a w hL hd hr Q hq
 simp only [zoP]at he
 split at he
 ·rename_i hx
  obtain⟨c,rfl,hs⟩:=hr.opd hx
  have:a.eval x= .bool true:=by
   generalize a.eval x=v at hs
   cases hs with
   |e h1 _ _=>exact zgG h1 rfl
  exact wp_cond_true this (ihp _ _ _ _ he F R L js _ a w hL hd hr Q hq)
 ·rename_i hx
  obtain⟨c,rfl,hs⟩:=hr.opd hx
  have:a.eval x= .bool false:=by
   generalize a.eval x=v at hs
   cases hs with
   |e h1 _ _=>exact zgG h1 rfl
  exact wp_cond_false this (ihq _ _ _ _ he F R L js _ a w hL hd hr Q hq)
 ·rename_i y _ _ hx
  split at he
  ·rename_i ta tb hta htb
   simp at he;subst he
   obtain⟨b,hb,d1,d2⟩:=hd
   obtain⟨c,rfl,hs⟩:=hr.opd hx
   have:a.eval x= .bool b:=by
    generalize a.eval x=v at hs
    cases hs with
    |e h1 _ _=>exact zgG h1 hb
   exact wp_cond_split this (fun hh=>ihp _ _ _ _ hta F R L js _ a w hL (d1 hh) hr Q hq) (fun hh=>ihq _ _ _ _ htb F R L js _ a w hL (d2 hh) hr Q hq)
  ·cases he
 ·cases he
theorem zws {p:Nat→Prop} (h: ∃n,p n): ∃n,p n∧ ∀m,p m→n≤m:=by
 obtain⟨n,hn⟩:=h
 induction n using Nat.strongRecOn with
 |_ n ih=>
  by_cases hh: ∃m,m<n∧p m
  ·obtain⟨m,hm,hp⟩:=hh;exact ih m hm hp
  ·exact⟨n,hn,fun m hm=>Nat.le_of_not_lt fun hlt=>hh ⟨m,hlt,hm⟩⟩
theorem zw3 (hi:zuP) {b:Code} (ih:ziA P sg Rt rs b):ziA P sg Rt rs (.loop b):=by
 intro ex l σ tr he F R L js ρ a w hL hd hr Q hq
 simp only [zoP]at he
 split at he
 ·cases he
 ·rename_i pat t hpt
  have hrun:=znS _ _ hpt
  split at he
  ·cases he
  ·rename_i i0 hi0
   obtain⟨k,f,t',hsub,htr,hfn,hfe,hk⟩: ∃(k:Tr) (f:Nat→Xt→St→Option Tr) (t':Tr),t.sub f 0=some t'∧tr= .loop (EL.of i0) t' k∧
     (∀d τ,f d .normal τ=(zxI σ.nv pat τ).map fun es=> .jmp d (EL.of es))∧
     (∀d x τ r,x≠ .normal→f d x τ=some r→r= .leaf x τ∨ ∃post es,k= .leaf x post∧zxI σ.nv post τ=some es∧r= .jmp (d+1) (EL.of es))∧True:=by
    split at he
    ·obtain⟨t',ht',rfl⟩:=Option.map_eq_some_iff.1 he
     refine⟨_,_,t',ht',rfl,fun _ _=>rfl,fun d x τ r hx hr=> .inl ?_,trivial⟩
     cases x with
     |normal=>exact absurd rfl hx
     |exit j=>simpa using hr.symm
     |ret=>simpa using hr.symm
    ·rename_i id hid
     split at he
     ·cases he
     ·rename_i post hpost
      obtain⟨t',ht',rfl⟩:=Option.map_eq_some_iff.1 he
      refine⟨_,_,t',ht',rfl,fun _ _=>rfl,fun d x τ r hx hr=> ?_,trivial⟩
      cases x with
      |normal=>exact absurd rfl hx
      |exit j=>
       simp only at hr
       split at hr
       ·rename_i hj;subst hj
        obtain⟨es,hes,rfl⟩:=Option.map_eq_some_iff.1 hr
        exact .inr ⟨post,es,rfl,hes,rfl⟩
       ·exact .inl (by simpa using hr.symm)
      |ret=>exact .inl (by simpa using hr.symm)
   subst htr
   obtain⟨n0,hn0⟩:=hd
   obtain⟨c0,hc1,hc2,hc3,hc4,hc5,hnv,hc7,hc8⟩:=id hr
   generalize hbody:(fun(W:JK) (vs:List AV)=>t'.den Rt R L (W::(fun us=>k.den Rt R L js (ρ++us))::js) (ρ++vs))=body at hn0
   let J:Nat→Act→World→Prop:=fun n a w=> ∃vs,zoD body n vs∧zvt F (ρ++vs) pat a w
   have hJ0:J n0 a w:=⟨_,hn0,hi F _ pat σ i0 ρ ρ a w hi0 hnv (List.prefix_refl _) hr⟩
   classical
   let μ:Act→World→Nat:=fun a w=>if h: ∃n,J n a w then Classical.choose (zws h)else 0
   refine wp_loop (fun a w=> ∃n,J n a w) μ ⟨n0,hJ0⟩ fun a1 w1 hI=> ?_
   have hμ:μ a1 w1=Classical.choose (zws hI):=by simp only [μ];rw [dif_pos hI]
   have hJ:=(Classical.choose_spec (zws hI)).1
   rw [hμ]
   generalize Classical.choose (zws hI)=m at hJ
   obtain⟨vs,hvs,hrel⟩:=hJ
   cases m with
   |zero=>exact hvs.elim
   |succ m=>
    have hb:t'.den Rt R L (zoD body m::(fun us=>k.den Rt R L js (ρ++us))::js) (ρ++vs):=by
     have h9:zoD body (m+1) vs=body (zoD body m) vs:=rfl
     rw [h9]at hvs
     have:=congrFun (congrFun hbody (zoD body m)) vs
     rw [←this]at hvs;exact hvs
    have h1:=Tr.sub_den _ hL t hsub hb
    refine ih _ _ _ _ hrun F R _ _ _ a1 w1 (zj1 hL _ _) h1 hrel _ fun i x τ ρ' a' w' hp hl hrel'=> ?_
    obtain⟨r,d',e1,e2,e3⟩:=hl
    have hd':d'=i.length:=by simp only [List.length_append,List.length_cons]at e2;omega
    have hp':ρ<+:ρ':=(List.prefix_append _ _).trans hp
    by_cases hx:x= .normal
    ·subst hx
     rw [hfn]at e1
     obtain⟨es,hes,rfl⟩:=Option.map_eq_some_iff.1 e1
     simp only [Tr.den,zxF hd']at e3
     have hJm:J m a' w':=⟨_,e3,hi F _ pat τ es ρ ρ' a' w' hes hnv hp' hrel'⟩
     refine⟨⟨m,hJm⟩, ?_⟩
     simp only [μ]
     rw [dif_pos ⟨m,hJm⟩]
     exact Nat.lt_succ_of_le ((Classical.choose_spec (zws ⟨m,hJm⟩)).2 _ hJm)
    ·have hthen:Q x.ex a' w'→Exit.then (fun a' w'=>(∃n,J n a' w')∧μ a' w'<m+1) Q x.ex a' w':=by
      cases x with
      |normal=>exact absurd rfl hx
      |exit j=>exact id
      |ret=>exact id
     apply hthen
     rcases hfe _ _ _ _ hx e1 with rfl|⟨post,es,rfl,hes,rfl⟩
     ·exact hq (i++ [_,_]) x τ ρ' a' w' hp' (by simpa [Tr.den]using e3) hrel'
     ·simp only [Tr.den,zyh hd']at e3
      have:=hi F _ post τ es ρ ρ' a' w' hes hnv hp' hrel'
      exact hq [] x post _ a' w' (List.prefix_append _ _) e3 this
theorem zvI (hr:zu2 P sg Rt) (hi:zuP): ∀c,ziA P sg Rt rs c:=by
 intro c
 induction c with
 |skip=>
  intro ex l σ t he F R L js ρ a w hL hd hr Q hq
  simp only [zoP,Option.some.injEq]at he;subst he
  exact wp_skip (hq [] _ _ _ _ _ (List.prefix_refl _) hd hr)
 |label=>
  intro ex l σ t he F R L js ρ a w hL hd hr Q hq
  simp only [zoP,Option.some.injEq]at he;subst he
  exact wp_label (hq [] _ _ _ _ _ (List.prefix_refl _) hd hr)
 |ret=>
  intro ex l σ t he F R L js ρ a w hL hd hr Q hq
  simp only [zoP,Option.some.injEq]at he;subst he
  exact wp_ret (hq [] _ _ _ _ _ (List.prefix_refl _) hd hr)
 |exit id=>
  intro ex l σ t he F R L js ρ a w hL hd hr Q hq
  simp only [zoP,Option.some.injEq]at he;subst he
  exact wp_exit (hq [] _ _ _ _ _ (List.prefix_refl _) hd hr)
 |region id ops draw=>
  intro ex l σ t he F R L js ρ a w hL hd hrel Q hq
  simp only [zoP]at he
  split at he
  ·simp at he;subst he;exact hd.elim
  ·rename_i hp
   split at he
   ·cases he
   ·rename_i hs
    simp only [Bool.or_eq_true,Bool.not_eq_true',not_or,Bool.not_eq_false]at hs
    exact hr id ops draw σ t (by simpa using hp) hs.1 hs.2 he F R L js ρ a w hL hd hrel Q hq
 |scope b ih=>
  intro ex l σ t he F R L js ρ a w hL hd hr Q hq
  simp only [zoP]at he
  refine wp_scope_straight (ih _ _ _ _ he F R L js ρ a w hL hd hr _ fun i x τ ρ' a' w' hp hl hrel=> ?_)
  have:=hq i x τ ρ' a' w' hp hl hrel
  cases x<;>exact this
 |cond x p q ihp ihq=>exact zwb ihp ihq
 |block id b ih=>exact zvp ih
 |seq x y ihx ihy=>exact zyn hi ihx ihy
 |loop b ih=>exact zw3 hi ih
 |_=>intro ex l σ t he;simp [zoP]at he
end
end Go.Proofs.YtecngjbpbnfegaaGreatDoor
end
section
namespace Go.Proofs.YtecngjbpbnfegaaGreatDoor
open Go.RowKit
theorem zen: ∀{l:List (Nat × Ent)} {t:Nat} {e:Ent},zat l t=some e→(t,e)∈l
 | [],_,_,h=>by simp [zat]at h
 |(u,f)::l,t,e,h=>by
  simp only [zat]at h
  split at h
  ·rename_i hu;subst hu;simp at h;subst h;simp
  ·exact List.mem_cons_of_mem _ (zen h)
theorem zfL {α:Type}: ∀{l:List (Nat × α)} {t:Nat} {e:α},l.lookup t=some e→(t,e)∈l
 | [],_,_,h=>by simp at h
 |(u,f)::l,t,e,h=>by
  simp only [List.lookup_cons]at h
  split at h
  ·rename_i hu;simp at h hu;subst h;subst hu;simp
  ·exact List.mem_cons_of_mem _ (zfL h)
theorem zko: ∀{θ:List (Nat × Option Nat)},znY θ=true→ ∀{t u v:Nat},(t,some v)∈θ→(u,some v)∈θ→t=u
 | [],_,t,u,v,h,_=>by simp at h
 |(p,q)::θ,hn,t,u,v,h1,h2=>by
  have hn':znY θ=true:=by
   cases q<;>(simp only [znY,Bool.and_eq_true]at hn;exact hn.2)
  have key: ∀x,(p,some v)=(p,q)→(x,some v)∈θ→False:=by
   intro x hq hx
   cases hq
   simp only [znY,Bool.and_eq_true,List.all_eq_true]at hn
   have:=hn.1 _ hx
   simp at this
  rcases List.mem_cons.1 h1 with h3|h3<;>rcases List.mem_cons.1 h2 with h4|h4
  ·cases h3;cases h4;rfl
  ·cases h3;exact(key u rfl h4).elim
  ·cases h4;exact(key t rfl h3).elim
  ·exact zko hn' h3 h4
def zcy (hp:List (Nat × Ent)) (t:Nat):Option Nat:=match zat hp t with
 |some (.box ..)=>some 0
 |some (.row _ _ g _ _)=>some g
 |some (.frz g _)=>some g
 |some (.deep _ _ _ g _ _)=>some g
 |_=>none
def zhC (hp:List (Nat × Ent)) (t:Nat):Bool:=match zat hp t with
 |some (.box ..)=>true
 |some (.row ..)=>true
 |some (.deep ..)=>true
 |_=>false
def zyL (pat leaf:Option Ent) (g:GI):GI:=match pat,leaf with
 |some (.row ..),some (.deep ..)=>⟨g.top.take 1, []⟩
 |_,_=>g
theorem zyv {p l:Option Ent} {g:GI} {b:Nat} (h:b∈(zyL p l g).top):b∈g.top:=by
 unfold zyL at h
 split at h
 ·exact List.mem_of_mem_take h
 ·exact h
theorem zxY {p l:Option Ent} {g:GI} {b:Nat} (h:b∈(zyL p l g).own):b∈g.own:=by
 unfold zyL at h
 split at h
 ·simp only [GI.own,List.append_nil]at h
  simp [GI.own,List.mem_of_mem_take h]
 ·exact h
theorem zvh {p l:Option Ent} {g:GI} (h:g.own.Nodup):(zyL p l g).own.Nodup:=by
 unfold zyL
 split
 ·simp only [GI.own,List.append_nil]at h ⊢
  exact List.Sublist.nodup (List.Sublist.trans (List.take_sublist _ _) (List.sublist_append_left _ _)) h
 ·exact h
def zcO (c:Cx) (ρ:List AV) (θ:List (Nat × Option Nat)) (pat leaf:St):Cx:=
 {c with
  ρ:=ρ
  G:=fun t=>if zhC pat.hp t then(match θ.lookup t with|some (some t')=>zyL (zat pat.hp t) (zat leaf.hp t') (c.G t')|_=>⟨[], []⟩)else⟨[], []⟩
  K:=fun t g=>zcy pat.hp t=some g
  H:=fun t _=>match θ.lookup t with|some (some t')=>c.H t' ((zcy leaf.hp t').getD 0)|_=> .slice none 0 0
  U:=fun t=>t<pat.nx
  E:=fun t=>match zat pat.hp t with|some (.deep _ _ _ _ ep _)=>ep|_=>0}
section
variable {c:Cx} {ρ:List AV} {nv n:Nat} {es:List E} {θ:List (Nat × Option Nat)} {pat leaf:St} {sl:Nat→SV} {a:Act}
theorem zn3 {t b:Nat} (h:b∈((zcO c ρ θ pat leaf).G t).own):zhC pat.hp t=true∧ ∃t',θ.lookup t=some (some t')∧(b∈((zcO c ρ θ pat leaf).G t).top→b∈(c.G t').top)∧b∈(c.G t').own:=by
 simp only [zcO]at h ⊢
 split at h
 ·rename_i ho
  split at h
  ·rename_i t' ht
   exact⟨ho,t',ht,fun hb=>by rw [if_pos ho]at hb;exact zyv hb,zxY h⟩
  ·simp [GI.own]at h
 ·simp [GI.own]at h
theorem znb {b:Nat} (h:c.ok b):(zcO c ρ θ pat leaf).ok b:=by
 refine⟨fun⟨t,ht⟩=> ?_,h.2⟩
 obtain⟨_,t',_,hg,_⟩:=zn3 (b:=b) (by simp only [GI.own,List.mem_append];exact .inl ht)
 exact h.1 ⟨t',hg ht⟩
theorem ziQ (hp:ρ<+:c.ρ) (hn:ρ.length=nv) {x y:E} (h:okE nv es x y=true):x.den (ρ++(EL.of es).den c.ρ)=y.den c.ρ:=by
 obtain⟨τ,hτ⟩:=hp
 have hgen:x.sc nv=true→x.beq y=true→x.den (ρ++(EL.of es).den c.ρ)=y.den c.ρ:=by
  intro h1 h2
  rw [←E.beq_den c.ρ x y h2]
  subst hn
  generalize hq:(EL.of es).den c.ρ=q
  rw [E.sc_den ρ q τ x h1,hτ]
 unfold okE at h
 split at h
 ·rename_i i
  split at h
  ·rename_i hi
   exact hgen (by simpa [E.sc]using hi) h
  ·rename_i hi
   split at h
   ·rename_i z hz
    rw [←E.beq_den c.ρ z y h]
    simp only [E.den,EL.den_of]
    rw [List.getElem?_append_right (by omega),hn,List.getElem?_map,hz];rfl
   ·cases h
 ·simp only [Bool.and_eq_true]at h
  exact hgen h.1 h.2
theorem zxZ (hrel:Rel c n sl (zat leaf.hp) a) {s:SV} {v:Value} {y:E} (hs:SR c [s] [v]) (h:zoo leaf s=some y): ∃f,Rd c.w [v] [y.den c.ρ] f∧ ∀b∈f,c.see (zcz (zat leaf.hp) [] (zaj+1) [s]) b:=
 zhe (fun t e hr=>hrel.ents t e hr) (zcQ _) zaj h hs zaj (Nat.le_refl _)
mutual
theorem zy4 (hrel:Rel c n sl (zat leaf.hp) a) (hp:ρ<+:c.ρ) (hn:ρ.length=nv) (hents: ∀t e,(t,e)∈pat.hp→znp nv es θ pat leaf t e=true): ∀(m:Nat) {p s:SV} {v:Value},okS nv es θ pat leaf m p s=true→SR c [s] [v]→SR (zcO c (ρ++(EL.of es).den c.ρ) θ pat leaf) [p] [v]
 |0,p,s,v,h,_=>by simp [okS]at h
 |m+1,p,s,v,h,hs=>by
  unfold okS at h
  split at h
  ·exact .undef .nil
  ·rename_i x
   split at h
   ·rename_i y hy
    simp only [Bool.and_eq_true,List.all_eq_true,Bool.or_eq_true]at h
    obtain⟨f,hf,hsee⟩:=zxZ hrel hs hy
    have hx:=ziQ (c:=c) hp hn h.1
    refine .e (by rw [show(zcO c (ρ++(EL.of es).den c.ρ) θ pat leaf).ρ=ρ++(EL.of es).den c.ρ from rfl,hx];exact hf) (fun b hb=> ?_) .nil
    rcases hsee b hb with hb|⟨t',ht',hb⟩
    ·exact znb hb
    ·refine⟨fun⟨u,hu⟩=> ?_, .inr (hrel.gw.allow t' b (by simp [GI.own,hb]))⟩
     obtain⟨ho,v',hl,hg,hbv⟩:=zn3 (b:=b) (by simp only [GI.own,List.mem_append];exact .inl hu)
     have hv:v'=t':=by
      refine Classical.byContradiction fun hne=>hrel.gw.disj v' t' hne b hbv (by simp [GI.own,hb])
     subst hv
     have:=h.2 _ ht' _ (zfL hl)
     simp only [bne_self_eq_false,Bool.false_eq_true,false_or]at this
     unfold zhC at ho
     split at this
     ·rename_i hh;rw [hh]at ho;simp at ho
     ·rename_i hh;rw [hh]at ho;simp at ho
     ·cases this
   ·cases h
  ·split at h
   ·cases hs with
    |nils _=>exact .nils .nil
   ·cases h
  ·split at h
   ·cases hs with
    |emp _=>exact .emp .nil
   ·cases hs with
    |nils _=>exact .emp .nil
   ·cases h
  ·rename_i t g
   have key: ∀t' v',zcy pat.hp t=some g→θ.lookup t=some (some t')→zgN leaf.hp t' v'=true→SR c [.own t' v'] [v]→SR (zcO c (ρ++(EL.of es).den c.ρ) θ pat leaf) [.own t g] [v]:=by
    intro t' v' hg hl hv hs
    cases hs with
    |own h1 h2 _=>
     refine .own hg ?_ .nil
     show(match θ.lookup t with|some (some t')=>c.H t' ((zcy leaf.hp t').getD 0)|_=>Value.slice none 0 0)=_
     rw [hl]
     have:(zcy leaf.hp t').getD 0=v':=by
      unfold zgN at hv
      unfold zcy
      split at hv
      ·rename_i hh;rw [hh];simpa using(beq_iff_eq.1 hv).symm
      ·rename_i hh;rw [hh];simpa using(beq_iff_eq.1 hv).symm
      ·rename_i hh;rw [hh];simpa using(beq_iff_eq.1 hv).symm
      ·cases hv
     show c.H t' ((zcy leaf.hp t').getD 0)=_
     rw [this];exact h2
   split at h
   ·rename_i g' _ _ hpt
    simp only [Bool.and_eq_true,beq_iff_eq]at h
    obtain⟨rfl,h⟩:=h
    split at h
    ·simp only [Bool.and_eq_true,beq_iff_eq]at h
     exact key _ _ (by simp [zcy,hpt]) h.1 h.2 hs
    ·rw [beq_iff_eq]at h
     cases hs with
     |nils _=>
      refine .own (p:=none) (q:=0) (r:=0) (by show zcy pat.hp t=some g;simp [zcy,hpt]) ?_ .nil
      show(match θ.lookup t with|some (some t')=>c.H t' ((zcy leaf.hp t').getD 0)|_=>Value.slice none 0 0)=_
      rw [h]
    ·cases h
   ·rename_i g' _ hpt
    simp only [Bool.and_eq_true,beq_iff_eq]at h
    obtain⟨rfl,h⟩:=h
    split at h
    ·simp only [Bool.and_eq_true,beq_iff_eq]at h
     exact key _ _ (by simp [zcy,hpt]) h.1 h.2 hs
    ·cases h
   ·rename_i g' _ _ hpt
    simp only [Bool.and_eq_true,beq_iff_eq]at h
    obtain⟨rfl,h⟩:=h
    split at h
    ·simp only [Bool.and_eq_true,beq_iff_eq]at h
     exact key _ _ (by simp [zcy,hpt]) h.1 h.2 hs
    ·rw [beq_iff_eq]at h
     cases hs with
     |nils _=>
      refine .own (p:=none) (q:=0) (r:=0) (by show zcy pat.hp t=some g;simp [zcy,hpt]) ?_ .nil
      show(match θ.lookup t with|some (some t')=>c.H t' ((zcy leaf.hp t').getD 0)|_=>Value.slice none 0 0)=_
      rw [h]
    ·cases h
   ·cases h
  ·rename_i t o
   split at h
   ·rename_i ty g cs hpt
    split at h
    ·rename_i t' o'
     simp only [Bool.and_eq_true,beq_iff_eq]at h
     obtain⟨rfl,hl⟩:=h
     have hbox:=hents t _ (zen hpt)
     simp only [znp,hl]at hbox
     split at hbox
     ·rename_i hlf
      cases hs with
      |bptr h1 h2 _=>
       refine .bptr (by show zcy pat.hp t=some 0;simp [zcy,hpt]) ?_ .nil
       show(match θ.lookup t with|some (some t')=>c.H t' ((zcy leaf.hp t').getD 0)|_=>Value.slice none 0 0)=_
       rw [hl]
       have:(zcy leaf.hp t').getD 0=0:=by simp [zcy,hlf]
       simp only [this];exact h2
     ·cases hbox
    ·cases h
   ·cases h
  ·cases h
  ·rename_i x i z o
   split at h
   ·rename_i y j z' o'
    simp only [Bool.and_eq_true,beq_iff_eq]at h
    obtain⟨⟨⟨⟨⟨rfl,rfl⟩,h1⟩,h2⟩,h3⟩,h4⟩:=h
    have hx:x.den (ρ++(EL.of es).den c.ρ)=y.den c.ρ:=by
     obtain⟨τ,hτ⟩:=hp
     rw [←E.beq_den c.ρ x y h2];subst hn
     generalize (EL.of es).den c.ρ=q
     rw [E.sc_den ρ q τ x h1,hτ]
    have hi:i.den (ρ++(EL.of es).den c.ρ)=j.den c.ρ:=by
     obtain⟨τ,hτ⟩:=hp
     rw [←E.beq_den c.ρ i j h4];subst hn
     generalize (EL.of es).den c.ρ=q
     rw [E.sc_den ρ q τ i h3,hτ]
    cases hs with
    |eptr g1 g2 g3 g4 g5 g6 _=>
     refine .eptr (f:=_) (by show Rd c.w _ [x.den (ρ++(EL.of es).den c.ρ)] _;rw [hx];exact g1) (fun b hb=>znb (g2 b hb)) (by show i.den (ρ++(EL.of es).den c.ρ)=_;rw [hi];exact g3) g4 g5 (by show((x.den (ρ++(EL.of es).den c.ρ)).nth _).cells.length=_;rw [hx];exact g6) .nil
   ·cases h
  ·rename_i x o
   split at h
   ·rename_i y o'
    simp only [Bool.and_eq_true,beq_iff_eq]at h
    obtain⟨⟨rfl,h1⟩,h2⟩:=h
    have hx:x.den (ρ++(EL.of es).den c.ρ)=y.den c.ρ:=by
     obtain⟨τ,hτ⟩:=hp
     rw [←E.beq_den c.ρ x y h2];subst hn
     generalize (EL.of es).den c.ρ=q
     rw [E.sc_den ρ q τ x h1,hτ]
    cases hs with
    |pptr g1 g2 _=>exact .pptr (by show Rd c.w _ [x.den (ρ++(EL.of es).den c.ρ)] _;rw [hx];exact g1) (fun b hb=>znb (g2 b hb)) .nil
   ·cases h
  ·split at h
   ·cases hs with
    |agg h9 h1 _=>exact .agg h9 (zpt hrel hp hn hents m h h1) .nil
   ·cases h
  ·split at h
   ·cases hs with
    |tup h1 _=>exact .tup (zpt hrel hp hn hents m h h1) .nil
   ·cases h
  ·split at h
   ·simp only [Bool.and_eq_true,beq_iff_eq]at h
    obtain⟨rfl,h⟩:=h
    cases hs with
    |fn h1 _=>exact .fn (zpt hrel hp hn hents m h h1) .nil
   ·cases h
  ·cases h
  ·cases h
  ·cases h
  ·cases h
theorem zpt (hrel:Rel c n sl (zat leaf.hp) a) (hp:ρ<+:c.ρ) (hn:ρ.length=nv) (hents: ∀t e,(t,e)∈pat.hp→znp nv es θ pat leaf t e=true): ∀(m:Nat) {ps ss:List SV} {vs:List Value},zur nv es θ pat leaf m ps ss=true→SR c ss vs→SR (zcO c (ρ++(EL.of es).den c.ρ) θ pat leaf) ps vs
 |0,ps,ss,vs,h,_=>by simp [zur]at h
 |m+1, [], [],vs,h,hs=>by cases hs;exact .nil
 |m+1,p::ps, [],vs,h,hs=>by simp [zur]at h
 |m+1, [],s::ss,vs,h,hs=>by simp [zur]at h
 |m+1,p::ps,s::ss, [],h,hs=>by have:=hs.len;simp at this
 |m+1,p::ps,s::ss,v::vs,h,hs=>by
  simp only [zur,Bool.and_eq_true]at h
  obtain⟨h1,h2⟩:=hs.uncons
  exact(zy4 hrel hp hn hents m h.1 h1).cons (zpt hrel hp hn hents m h.2 h2)
end
theorem zvU (hrel:Rel c n sl (zat leaf.hp) a) (hp:ρ<+:c.ρ) (hn:ρ.length=nv) (hents: ∀t e,(t,e)∈pat.hp→znp nv es θ pat leaf t e=true) (hθ:znY θ=true) {t:Nat} {e:Ent} (ht:zat pat.hp t=some e):zkI (zcO c (ρ++(EL.of es).den c.ρ) θ pat leaf) t e:=by
 have h:=hents t e (zen ht)
 have hG0:zhC pat.hp t=false→(zcO c (ρ++(EL.of es).den c.ρ) θ pat leaf).G t=⟨[], []⟩:=by
  intro h0;simp only [zcO];rw [if_neg (by rw [h0];simp)]
 have hG2: ∀t',zhC pat.hp t=true→θ.lookup t=some (some t')→(zcO c (ρ++(EL.of es).den c.ρ) θ pat leaf).G t=zyL (zat pat.hp t) (zat leaf.hp t') (c.G t'):=by
  intro t' h0 hl;simp only [zcO];rw [if_pos h0,hl]
 have hG1: ∀t',zhC pat.hp t=true→θ.lookup t=some (some t')→(∀q1 q2 q3 q4 q5 q6,zat leaf.hp t'=some (.deep q1 q2 q3 q4 q5 q6)→ ∀p1 p2 p3 p4 p5,e≠ .row p1 p2 p3 p4 p5)→(zcO c (ρ++(EL.of es).den c.ρ) θ pat leaf).G t=c.G t':=by
  intro t' h0 hl hno
  rw [hG2 t' h0 hl,ht]
  unfold zyL
  split
  ·rename_i h1 h2
   simp only [Option.some.injEq]at h1
   exact absurd h1 (hno _ _ _ _ _ _ h2 _ _ _ _ _)
  ·rfl
 have hH1: ∀t' g,θ.lookup t=some (some t')→zcy leaf.hp t'=some g→ ∀g',(zcO c (ρ++(EL.of es).den c.ρ) θ pat leaf).H t g'=c.H t' g:=by
  intro t' g hl hg g';simp only [zcO,hl,hg,Option.getD_some]
 have hgenle: ∀g,zcy pat.hp t=some g→ ∀g',(zcO c (ρ++(EL.of es).den c.ρ) θ pat leaf).K t g'→g'≤g:=by
  intro g hg g' hk
  have hk':zcy pat.hp t=some g':=hk
  rw [hg]at hk';cases hk';exact Nat.le_refl _
 cases e with
 |box ty g cs=>
  simp only [znp]at h
  split at h
  ·rename_i t' hl
   split at h
   ·rename_i ty' g' ds hlf
    simp only [Bool.and_eq_true,beq_iff_eq]at h
    obtain⟨⟨rfl,rfl⟩,h⟩:=h
    obtain⟨b,C,h1,h2,h3,h4,h5,h6,h7⟩:=hrel.ents t' _ (by rw [hlf];rfl)
    have hg:=hG1 t' (by simp [zhC,ht]) hl (by intros;simp)
    exact⟨b,C,by show zcy pat.hp t=some 0;simp [zcy,ht],by rw [hH1 t' 0 hl (by simp [zcy,hlf])];exact h2,by rw [hg];exact h3,by rw [hg];exact h4,h5,h6,zpt hrel hp hn hents _ h h7⟩
   ·cases h
  ·cases h
 |row et z g x d=>
  simp only [znp]at h
  split at h
  ·rename_i t' hl
   split at h
   ·rename_i et' z' g' y d' hlf
    simp only [Bool.and_eq_true,beq_iff_eq,Bool.or_eq_true,Bool.not_eq_true']at h
    obtain⟨⟨⟨rfl,rfl⟩,hx⟩,hd⟩:=h
    obtain⟨h1,h2,N,h3,h4,h5,h6⟩:=hrel.ents t' _ (by rw [hlf];rfl)
    have hg:=hG1 t' (by simp [zhC,ht]) hl (fun _ _ _ _ _ _ hh=>by rw [hlf]at hh;cases hh)
    have hx':=ziQ hp hn hx
    have hK:zcy pat.hp t=some g:=by simp [zcy,ht]
    refine⟨hK,hgenle g hK,N, ?_,fun b hb=>znb (h4 b hb),fun hdt=> ?_,fun hdf=> ?_⟩
    ·rw [hH1 t' g' hl (by simp [zcy,hlf]),hg]
     show zdF c.w et z _ (x.den (ρ++(EL.of es).den c.ρ)) _ N
     rw [hx'];exact h3
    ·rw [hg];exact h5 (by rcases hd with hd|hd;rw [hdt]at hd;cases hd;exact hd)
    ·rw [hg]
     cases d' with
     |false=>exact h6 rfl
     |true=>obtain⟨u1,u2⟩:=h5 rfl;rw [u2];exact u1
   ·rename_i et' z' l' g' ep' y hlf
    simp only [Bool.and_eq_true,beq_iff_eq,Bool.not_eq_true']at h
    obtain⟨⟨⟨rfl,rfl⟩,hx⟩,rfl⟩:=h
    obtain⟨h1,h2,_,h3,h4⟩:=hrel.ents t' _ (by rw [hlf];rfl)
    have hg:(zcO c (ρ++(EL.of es).den c.ρ) θ pat leaf).G t=⟨(c.G t').top.take 1, []⟩:=by
     rw [hG2 t' (by simp [zhC,ht]) hl,ht,hlf];rfl
    have hx':=ziQ hp hn hx
    have hK:zcy pat.hp t=some g:=by simp [zcy,ht]
    obtain⟨f,k1,k2⟩:=h3.ownRow
    have hnd:((c.G t').top.take 1++(c.G t').top.drop 1).Nodup:=by
     rw [List.take_append_drop]
     have:=hrel.gw.nodup t'
     simp only [GI.own,h4,List.append_nil]at this
     exact this
    refine⟨hK,hgenle g hK,f, ?_,fun b hb=> ?_,fun hdt=>(by cases hdt),fun _=>by rw [hg]⟩
    ·rw [hH1 t' g' hl (by simp [zcy,hlf]),hg]
     show zdF c.w et z _ (x.den (ρ++(EL.of es).den c.ρ)) _ f
     rw [hx'];exact k1
    ·have hbt:b∈(c.G t').top:=List.mem_of_mem_drop (k2 b hb)
     refine⟨fun⟨u,hu⟩=> ?_, .inr (hrel.gw.allow t' b (by simp [GI.own,hbt]))⟩
     obtain⟨_,v',hl',_,hbv⟩:=zn3 (b:=b) (by simp only [GI.own,List.mem_append];exact .inl hu)
     have hv:v'=t':=Classical.byContradiction fun hne=>hrel.gw.disj v' t' hne b hbv (by simp [GI.own,hbt])
     subst hv
     have:=zko hθ (zfL hl') (zfL hl)
     subst this
     rw [hg]at hu
     exact(List.nodup_append.1 hnd).2.2 b hu b (k2 b hb) rfl
   ·cases h
  ·rename_i hl
   simp only [Bool.and_eq_true,decide_eq_true_eq]at h
   have hx':=ziQ hp hn h.1
   have hK:zcy pat.hp t=some g:=by simp [zcy,ht]
   have hg:(zcO c (ρ++(EL.of es).den c.ρ) θ pat leaf).G t=⟨[], []⟩:=by simp [zcO,hl]
   refine⟨hK,hgenle g hK, [],⟨[], ?_,by simp,h.2, .inl ⟨rfl,⟨none, ?_⟩,by rw [hg],rfl⟩⟩,by simp,fun _=>⟨rfl,by rw [hg]⟩,fun _=>by rw [hg]⟩
   ·show x.den (ρ++(EL.of es).den c.ρ)=_
    rw [hx'];rfl
   ·simp [zcO,hl]
  ·cases h
 |frz g x=>
  have hg:=hG0 (by simp [zhC,ht])
  have hK:zcy pat.hp t=some g:=by simp [zcy,ht]
  simp only [znp]at h
  split at h
  ·rename_i t' hl
   have hsee: ∀b,b∈(c.G t').top→(zcO c (ρ++(EL.of es).den c.ρ) θ pat leaf).ok b:=by
    intro b hb
    refine⟨fun⟨u,hu⟩=> ?_, .inr (hrel.gw.allow t' b (by simp [GI.own,hb]))⟩
    obtain⟨ho,v',hl',hg',hbv⟩:=zn3 (b:=b) (by simp only [GI.own,List.mem_append];exact .inl hu)
    have hv:v'=t':=Classical.byContradiction fun hne=>hrel.gw.disj v' t' hne b hbv (by simp [GI.own,hb])
    subst hv
    have:=zko hθ (zfL hl') (zfL hl)
    subst this
    simp [zhC,ht]at ho
   split at h
   ·rename_i et' z' g' y d' hlf
    obtain⟨h1,h2,N,h3,h4,h5,h6⟩:=hrel.ents t' _ (by rw [hlf];rfl)
    obtain⟨f,r1,r2,_⟩:=h3.rd
    refine⟨hK,⟨f, ?_,fun b hb=>(r2 b hb).elim (hsee b) fun hb=>znb (h4 b hb)⟩,by rw [hg],by rw [hg]⟩
    rw [hH1 t' g' hl (by simp [zcy,hlf])]
    show Rd c.w _ [x.den (ρ++(EL.of es).den c.ρ)] f
    rw [ziQ hp hn h];exact r1
   ·rename_i g' y hlf
    obtain⟨h1,⟨f,r1,r2⟩,_,_⟩:=hrel.ents t' _ (by rw [hlf];rfl)
    refine⟨hK,⟨f, ?_,fun b hb=>znb (r2 b hb)⟩,by rw [hg],by rw [hg]⟩
    rw [hH1 t' g' hl (by simp [zcy,hlf])]
    show Rd c.w _ [x.den (ρ++(EL.of es).den c.ρ)] f
    rw [ziQ hp hn h];exact r1
   ·rename_i et' z' l' g' ep' y hlf
    obtain⟨h1,h2,_,h3,h4⟩:=hrel.ents t' _ (by rw [hlf];rfl)
    obtain⟨f,r1,r2⟩:=h3.rd
    refine⟨hK,⟨f, ?_,fun b hb=>hsee b (r2 b hb)⟩,by rw [hg],by rw [hg]⟩
    rw [hH1 t' g' hl (by simp [zcy,hlf])]
    show Rd c.w _ [x.den (ρ++(EL.of es).den c.ρ)] f
    rw [ziQ hp hn h];exact r1
   ·cases h
  ·cases h
 |hol=>simp [znp]at h
 |deep et z dl g ep x=>
  have hE:(zcO c (ρ++(EL.of es).den c.ρ) θ pat leaf).E t=ep:=by simp [zcO,ht]
  have hK:zcy pat.hp t=some g:=by simp [zcy,ht]
  simp only [znp]at h
  split at h
  ·rename_i t' hl
   split at h
   ·rename_i et' z' dl' g' ep' y hlf
    simp only [Bool.and_eq_true,beq_iff_eq]at h
    obtain⟨⟨⟨rfl,rfl⟩,hdl⟩,hx⟩:=h
    have hdl:=DTL.of_inj hdl
    subst hdl
    obtain⟨h1,h2,_,h3,h4⟩:=hrel.ents t' _ (by rw [hlf];rfl)
    have hg:=hG1 t' (by simp [zhC,ht]) hl (by intros;simp)
    refine⟨hK,hgenle g hK,hE, ?_,by rw [hg];exact h4⟩
    rw [hH1 t' g' hl (by simp [zcy,hlf]),hg]
    show DC c.w _ _ [x.den (ρ++(EL.of es).den c.ρ)] _
    rw [ziQ hp hn hx];exact h3
   ·cases h
  ·rename_i hl
   have hg:(zcO c (ρ++(EL.of es).den c.ρ) θ pat leaf).G t=⟨[], []⟩:=by simp [zcO,hl]
   simp only [Bool.and_eq_true,decide_eq_true_eq,beq_iff_eq]at h
   refine⟨hK,hgenle g hK,hE, ?_,by rw [hg]⟩
   have e1:(zcO c (ρ++(EL.of es).den c.ρ) θ pat leaf).H t g= .slice none 0 0:=by simp [zcO,hl]
   rw [e1,hg]
   show DC c.w _ _ [x.den (ρ++(EL.of es).den c.ρ)] _
   rw [ziQ hp hn h.1.1]
   exact .void h.1.2 (by rw [DTL.toList_of];exact h.2) .nil
  ·cases h
 |gd gs e=>simp [znp]at h
 |dead=>
  have hg:=hG0 (by simp [zhC,ht])
  exact⟨by rw [hg],by rw [hg]⟩
end
theorem zuO {nv:Nat} {es:List E} {θ:List (Nat × Option Nat)} {pat leaf:St}: ∀(m:Nat) {ps ss:List SV},zur nv es θ pat leaf m ps ss=true→ ∀{i:Nat} {p:SV},ps[i]?=some p→ ∃s k,ss[i]?=some s∧okS nv es θ pat leaf k p s=true
 |0,ps,ss,h,_,_,_=>by simp [zur]at h
 |m+1, [],ss,h,i,p,hp=>by simp at hp
 |m+1,q::ps, [],h,i,p,hp=>by simp [zur]at h
 |m+1,q::ps,s::ss,h,i,p,hp=>by
  simp only [zur,Bool.and_eq_true]at h
  cases i with
  |zero=>simp at hp;subst hp;exact⟨s,m,rfl,h.1⟩
  |succ i=>simpa using zuO m h.2 (by simpa using hp)
theorem zxN:zuP:=by
 intro F nv pat τ es ρ ρ' a w hi hn hp hr
 obtain⟨c,rfl,rfl,hw0,hA,hMu,hnv,hU,hrel⟩:=hr
 unfold zxI at hi
 simp only at hi
 split at hi
 ·rename_i hok
  simp only [Option.some.injEq]at hi
  generalize hes0:(List.range (pat.nv-nv)).map (fun j=>((zpU nv pat τ true pat.hp (zpU nv pat τ false pat.hp (zyW nv pat τ 2000 ⟨[], []⟩ pat.sl τ.sl))).as.lookup (nv+j)).getD (.int .i64 0))=es0 at hok hi
  subst hi
  generalize (zpU nv pat τ true pat.hp (zpU nv pat τ false pat.hp (zyW nv pat τ 2000 ⟨[], []⟩ pat.sl τ.sl))).θ=θ at hok
  clear hes0
  simp only [zB6,Bool.and_eq_true,beq_iff_eq,List.all_eq_true,decide_eq_true_eq]at hok
  obtain⟨⟨⟨⟨⟨⟨h1,hθ⟩,hlen⟩,hsl⟩,hall⟩,hnx⟩,hpins⟩:=hok
  have hents: ∀t e,(t,e)∈pat.hp→znp nv es0 θ pat τ t e=true:=fun t e he=>(hall _ he).1
  have hlt: ∀t e,(t,e)∈pat.hp→t<pat.nx:=fun t e he=>(hall _ he).2
  have hnogd: ∀t e,zat pat.hp t=some e→ ∀gs e',e≠ .gd gs e':=by
   rintro t e he gs e' rfl
   have:=hents t _ (zen he)
   simp [znp]at this
  have hres: ∀t e e',zat pat.hp t=some e→(Res (ρ++(EL.of es0).den c.ρ) (zat pat.hp t) e'↔e'=e):=by
   intro t e e' he
   rw [he]
   cases e with
   |gd gs e9=>exact absurd rfl (hnogd t _ he gs e9)
   |_=>simp [Res,eq_comm]
  refine⟨zcO c (ρ++(EL.of es0).den c.ρ) θ pat τ,rfl,rfl,hw0,hA,hMu, ?_,fun t ht=>ht,hrel.defers,by rw [hlen];exact hrel.size,⟨hrel.base.os,hrel.base.tape,hrel.base.output,hrel.base.size,fun t v hpv=> ?_,hrel.base.block⟩,fun i=> ?_,fun t e hr=> ?_,fun t hno=> ?_,⟨fun t=> ?_,fun t u htu b hb hb'=> ?_,fun t b hb=> ?_,fun t b hb=> ?_⟩,fun t g hk=> ?_,fun t e he=>hlt t e (zen he)⟩
  ·rw [h1,EL.den_of];simp [hn]
  ·have hisp:ztQ t=true:=F.pinOK t v (by rw [←hA];exact hpv)
   refine⟨by
    show t<pat.nx
    unfold ztQ at hisp
    simp only [Bool.and_eq_true,decide_eq_true_eq]at hisp
    omega,fun hk=> ?_⟩
   have hk':zcy pat.hp t=some 0:=hk
   obtain⟨e,hpe⟩: ∃e,zat pat.hp t=some e:=by
    unfold zcy at hk'
    cases hh:zat pat.hp t with
    |none=>rw [hh]at hk';cases hk'
    |some e=>exact⟨e,rfl⟩
   have hpk:=hpins _ (zen hpe)
   simp only [hisp,Bool.not_true,Bool.false_or]at hpk
   have main:θ.lookup t=some (some t)→zcy τ.hp t=some 0→c.K t 0→(zcO c (ρ++(EL.of es0).den c.ρ) θ pat τ).H t 0=v:=by
    intro hl hg hK
    simp only [zcO,hl,hg,Option.getD_some]
    exact(hrel.base.pins t v hpv).2 hK
   unfold okPin at hpk
   simp only [zcy,hpe]at hk'
   rw [hpe]at hpk
   cases e with
   |box ty g cs=>
    simp only [Bool.and_eq_true,beq_iff_eq]at hpk
    obtain⟨hl,hb⟩:=hpk
    split at hb
    ·rename_i ty' g' cs' hlf
     obtain⟨b,C,q1,_⟩:=hrel.ents t _ (by rw [hlf];rfl)
     exact main hl (by simp [zcy,hlf]) q1
    ·cases hb
   |row ety sz g x d=>
    simp only [Option.some.injEq]at hk'
    subst hk'
    simp only [bne_self_eq_false,Bool.false_or,Bool.and_eq_true,beq_iff_eq]at hpk
    obtain⟨hl,hb⟩:=hpk
    split at hb
    ·rename_i ety' sz' g' x' d' hlf
     rw [beq_iff_eq]at hb
     subst hb
     obtain⟨q1,_⟩:=hrel.ents t _ (by rw [hlf];rfl)
     exact main hl (by simp [zcy,hlf]) q1
    ·cases hb
   |frz g x=>
    simp only [Option.some.injEq]at hk'
    subst hk'
    simp at hpk
   |gd=>simp at hk'
   |dead=>simp at hk'
   |hol=>simp at hk'
   |deep ety sz l g ep x=>
    simp only [Option.some.injEq]at hk'
    subst hk'
    simp only [bne_self_eq_false,Bool.false_or,Bool.and_eq_true,beq_iff_eq]at hpk
    obtain⟨hl,hb⟩:=hpk
    split at hb
    ·rename_i hlf
     rw [beq_iff_eq]at hb
     subst hb
     obtain⟨q1,_⟩:=hrel.ents t _ (by rw [hlf];rfl)
     exact main hl (by simp [zcy,hlf]) q1
    ·cases hb
  ·unfold zaK
   cases hpi:pat.sl[i]? with
   |none=>exact .undef .nil
   |some p=>
    obtain⟨s,k,hs,hk⟩:=zuO _ hsl hpi
    have:=hrel.slots i
    unfold zaK at this
    rw [hs]at this
    exact zy4 hrel hp hn hents k hk this
  ·cases he:zat pat.hp t with
   |none=>rw [he]at hr;exact hr.elim
   |some e9=>
    have hee:=(hres t e9 e he).1 hr
    subst hee
    exact zvU hrel hp hn hents hθ he
  ·have:zhC pat.hp t=false:=by
    cases he:zat pat.hp t with
    |none=>simp [zhC,he]
    |some e9=>exact absurd ((hres t e9 e9 he).2 rfl) (hno e9)
   simp [zcO,this]
  ·simp only [zcO]
   split
   ·split
    ·exact zvh (hrel.gw.nodup _)
    ·simp [GI.own]
   ·simp [GI.own]
  ·obtain⟨_,t',hl,_,hbt⟩:=zn3 hb
   obtain⟨_,u',hl',_,hbu⟩:=zn3 hb'
   by_cases hh:t'=u'
   ·subst hh;exact htu (zko hθ (zfL hl) (zfL hl'))
   ·exact hrel.gw.disj t' u' hh b hbt hbu
  ·obtain⟨_,t',hl,_,hbt⟩:=zn3 hb
   exact hrel.gw.allow t' b hbt
  ·obtain⟨_,t',hl,_,hbt⟩:=zn3 hb
   exact hrel.gw.inb t' b hbt
  ·have hk':zcy pat.hp t=some g:=hk
   unfold zcy at hk'
   show t<pat.nx
   split at hk'
   ·rename_i hh;exact hlt t _ (zen hh)
   ·rename_i hh;exact hlt t _ (zen hh)
   ·rename_i hh;exact hlt t _ (zen hh)
   ·rename_i hh;exact hlt t _ (zen hh)
   ·cases hk'
 ·cases hi
end Go.Proofs.YtecngjbpbnfegaaGreatDoor
end
section
namespace Go.Proofs.YtecngjbpbnfegaaGreatDoor
open Go.RowKit
theorem zip (l:List DT): ∀(n k o m:Nat),k<n→o+m≤l.length→((zjt n l).drop (k*l.length+o)).take m=(l.drop o).take m
 |0,k,_,_,h,_=>by omega
 |n+1,0,o,m,_,hm=>by
  rw [zg2,Nat.zero_mul,Nat.zero_add,List.drop_append_of_le_length (by omega),List.take_append_of_le_length (by simp;omega)]
 |n+1,k+1,o,m,h,hm=>by
  have ih:=zip l n k o m (by omega) hm
  rw [←ih,zg2,show(k+1)*l.length+o=l.length+(k*l.length+o)from by rw [Nat.add_mul];omega,List.drop_append,List.drop_eq_nil_of_le (by omega)]
  simp
theorem DC.elem {w:World} {ys:List AV} {l:List DT} {cells:List Value} {N:List Nat} {z:Nat} (h:DC w (zjt ys.length l) cells (zaQ ys) N) (hl:l.length=z) (h7: ∀y∈ys,y.cells.length=z) {k o m:Nat} (hk:k<ys.length) (hm:o+m≤z):
  ∃M,(∀b∈M,b∈N)∧DC w ((l.drop o).take m) ((cells.drop (k*z+o)).take m) ((((AV.sl ys).nth k).cells.drop o).take m) M:=by
 obtain⟨N1,N2,N3,rfl,_,h2,_⟩:=h.split (k*z+o) m
 subst hl
 rw [zip l _ _ _ _ hk hm,zjH ys h7 k _ (znW hk) o m hm]at h2
 exact⟨N2,fun b hb=>by simp [hb],h2⟩
theorem Rd.asFld {w:World} {vs:List Value} {x:AV} {f:List Nat} {o m:Nat} {g:Bool} (h:Rd w vs ((x.cells.drop o).take m) f) (h9: ∀u∈vs,u.oneCell'=true) (hm:o+m≤x.cells.length) (h1:g=false→m=1):
  Rd w [if g then .agg vs.toArray else vs.headD undef] [x.fld o m g] f:=by
 cases g with
 |true=>have:=Rd.agg h9 h .nil;simpa [AV.fld]using this
 |false=>
  have:=h1 rfl
  subst this
  have e2:(x.cells.drop o).take 1= [x.cells[o]'(by omega)]:=by rw [List.drop_eq_getElem_cons (by omega),List.take_succ_cons,List.take_zero]
  rw [e2]at h
  have hl:=h.len
  match vs,hl with
  | [v],_=>simpa [AV.fld,show o<x.cells.length by omega]using h
section
variable {P:Program} {c:Cx} {n nx:Nat} {sl sl0:Nat→SV} {hp hp0:Nat→Option Ent} {a:Act} {o:Oper} {gs:Gd} {e:Eff} {sg:SgT} {nv:Nat}
theorem zsE {w:World} {b p:Nat} {t:TypeId} {C:Array Value} {ty:TypeId} {fz:Nat × Nat} (hb:w.heap[b]?=some (.cells C ty fz)) (ht:zlS P t=true) (hg:zaY P t=true∨P.cellsOf t=1) (hp:p+P.cellsOf t≤C.size):
  (Instr.loadAt t (.pointer (some ⟨b,p,none⟩))).run P w= .ok (if zaY P t then .agg ((C.toList.drop p).take (P.cellsOf t)).toArray else((C.toList.drop p).take (P.cellsOf t)).headD undef) w:=by
 have hlc:((C.toList.drop p).take (P.cellsOf t)).length=P.cellsOf t:=by
  rw [List.length_take,List.length_drop,Array.length_toList];omega
 refine zgE ht _ (fun _=>hlc) (fun h=> ?_) (fun j u hu=> ?_)
 ·rw [hlc];rcases hg with h'|h';rw [h]at h';cases h';exact h'
 ·rw [zax hb]
  rw [List.getElem?_take]at hu
  split at hu
  ·simpa using hu
  ·cases hu
theorem zxy {b g e z ep:Nat} {l:List DT} {c0 i:E} {t:TypeId} {k':Nat} {v:Value} (hE:zkI c b (.deep e z l g ep c0)) (hr:SR c [.rptr b g i z k'] [v]) (hty:zlS P t=true) (hle:k'+P.cellsOf t≤z) (hag:zaY P t=true∨P.cellsOf t=1):
  ∃u,(Instr.loadAt t v).run P c.w= .ok u c.w∧(((l.drop k').take (P.cellsOf t)).all DT.isFlat=true→Rd c.w [u] [(E.fld (.idx c0 i) k' (P.cellsOf t) (zaY P t)).den c.ρ] [])∧zAe c b u ((E.fld (.idx c0 i) k' (P.cellsOf t) (zaY P t)).den c.ρ)∧(zaY P t=false→znf c b g (some (i,z,k')) u):=by
 obtain⟨q1,q2,q3,q4,q5⟩:=hE
 cases hr with
 |rptr h1 h2 h3 h4 h5 _=>
  rename_i q len cap kk k h6
  obtain⟨d1,d2,⟨a9,d3,_⟩|⟨g9,cap9,C,ys,N1,d3,d4,d5,d6,d7,d8,d9,d10,d11,d12⟩⟩:=q4.inv
  ·rw [h2]at d3;cases d3;omega
  ·rw [h2]at d3;cases d3
   rw [DTL.toList_of]at d2 d12
   have hk:k.toNat<ys.length:=by omega
   have hmul:(k.toNat+1)*z≤ys.length*z:=Nat.mul_le_mul_right _ (by omega)
   have hmul2:ys.length*z≤cap*z:=Nat.mul_le_mul_right _ d7
   rw [Nat.add_mul]at hmul
   have hrun:=zsE (P:=P) (t:=t) (p:=k.toNat*z+k') d6 hty hag (by omega)
   obtain⟨M,m1,m2⟩:=d12.elem d2 d10 hk hle
   have hcel:((C.toList.take (ys.length*z)).drop (k.toNat*z+k')).take (P.cellsOf t)=(C.toList.drop (k.toNat*z+k')).take (P.cellsOf t):=by
    rw [List.drop_take,List.take_take,Nat.min_eq_left (by omega)]
   rw [hcel]at m2
   have hone: ∀u∈(C.toList.drop (k.toNat*z+k')).take (P.cellsOf t),u.oneCell'=true:=fun u hu=>d11 u (by
    rw [←hcel]at hu
    exact List.mem_of_mem_drop (List.mem_of_mem_take hu))
   have hylen:((AV.sl ys).nth k.toNat).cells.length=z:=d10 _ (List.mem_of_getElem? (znW hk))
   have hden:(E.fld (.idx c0 i) k' (P.cellsOf t) (zaY P t)).den c.ρ=((AV.sl ys).nth k.toNat).fld k' (P.cellsOf t) (zaY P t):=by
    simp only [E.den,d4,h3,AV.idx]
   have h1':zaY P t=false→P.cellsOf t=1:=fun h=>by rcases hag with h'|h';rw [h]at h';cases h';exact h'
   refine⟨_,hrun,fun hf=> ?_, ?_,fun hf=> ?_⟩
   ·rw [hden]
    exact(m2.flatRd hf).asFld hone (by omega) h1'
   ·obtain⟨f,r1,r2⟩:=m2.rd
    rw [hden]
    exact⟨f,r1.asFld hone (by omega) h1',fun b hb=> .inr (by rw [d5];simp [m1 b (r2 b hb)])⟩
   ·refine⟨_,_,_,C,_,_,kk,k,h2,by rw [d5];simp,d6,h3,h4,h5, ?_⟩
    have hc1:=h1' hf
    have hlt:k.toNat*z+k'<C.size:=by omega
    have e1:(C.toList.drop (k.toNat*z+k')).take 1= [C[k.toNat*z+k']]:=by
     rw [List.drop_eq_getElem_cons (by simpa using hlt),List.take_succ_cons,List.take_zero];simp
    rw [hf,hc1,e1]
    simp [hlt]
end
end Go.Proofs.YtecngjbpbnfegaaGreatDoor
end
section
namespace Go.Proofs.YtecngjbpbnfegaaGreatDoor
open Go.RowKit
section
variable {P:Program} {c:Cx} {n nx:Nat} {sl sl0:Nat→SV} {hp hp0:Nat→Option Ent} {a:Act} {o:Oper} {gs:Gd} {e:Eff} {sg:SgT} {nv:Nat}
theorem SVL.of_toList: ∀l:SVL,SVL.of l.toList=l
 | .nil=>rfl
 | .cons s l=>by simp [SVL.toList,SVL.of,SVL.of_toList l]
theorem zxm (h:Pre P c n nx sl hp a sl0 hp0 o gs) {t:TypeId} {x:Operand} (ho:o.op= .load t x) (he:zb2 P sg sl0 hp0 nv nx gs o=some e) (hc: ∀q∈e.chk,Cn.den c.ρ q):zbJ P o c n nx sl hp gs a e:=by
 have hm:x∈o.op.operands:=by simp [ho,Op.operands]
 simp only [zb2,ho,Option.bind_eq_some_iff,Option.map_eq_some_iff]at he
 obtain⟨s,hs,e1,he,rfl⟩:=he
 have hr:=(h.opd hs hm).asPtr (fun q hq=>hc q (by simp [hq]))
 have hc': ∀q∈e1.chk,Cn.den c.ρ q:=fun q hq=>hc q (by simp [hq])
 have ex:(execOp a.eval o).run P c.w=((Instr.loadAt t (a.eval x)).run P c.w).andThen fun v w=> .ok (.value v) w:=by simp [execOp,ho]
 unfold zv4 at he
 split at he
 ·cases he
 rename_i hty
 have hty:zlS P t=true:=by simpa using hty
 generalize hs':(asPtr s).1=s1 at he hr
 split at he
 ·rename_i b o'
  split at he
  ·rename_i ty g cs hl
   obtain⟨s2,hs2,rfl⟩:=Option.map_eq_some_iff.1 he
   generalize ha:a.eval x=v at hr ex
   cases hr with
   |bptr h1 h2 _=>
    rename_i q
    obtain⟨q',C,_,e2,e3,e4,e5,e5',e6⟩:=h.eh b _ (zaV hl h.gs)
    rw [h2]at e2;cases e2
    unfold zuB at hs2
    have hlen:=e6.len
    split at hs2
    ·rename_i hag
     split at hs2
     ·rename_i hle
      simp at hs2;subst hs2
      obtain⟨r1,r2⟩:=e6.split o'
      obtain⟨r3,r4⟩:=r2.split (P.cellsOf t)
      have:=SR.agg (cs:=SVL.of ((cs.drop o').take (P.cellsOf t))) (fun u hu=>e5' u (List.mem_of_mem_drop (List.mem_of_mem_take hu))) (by rw [SVL.toList_of];exact r3) .nil
      refine zbJ.pure h (v:= .agg ((C.toList.drop o').take (P.cellsOf t)).toArray) ?_ this rfl
      rw [ex,zgE hty ((C.toList.drop o').take (P.cellsOf t)) (fun _=>by simp at hlen ⊢;omega) (fun h=>by rw [hag]at h;cases h) (fun j u hu=>by
       rw [zax e5]
       rw [List.getElem?_take]at hu
       split at hu
       ·simpa using hu
       ·cases hu)]
      simp [hag]
     ·cases hs2
    ·rename_i hag
     have hag:zaY P t=false:=by simpa using hag
     obtain⟨u,hu,r⟩:=e6.get hs2
     refine zbJ.pure h (v:=u) ?_ r rfl
     rw [ex,zgE hty [u] (fun h=>by rw [hag]at h;cases h) (fun _=>rfl) (fun j z hz=>by
      cases j with
      |zero=>simp at hz;subst hz;rw [zax e5];simpa using hu
      |succ j=>simp at hz)]
     simp [hag]
  ·cases he
 ·rename_i b g i sz o'
  split at he
  ·rename_i e0 sz' g' c0 d hl
   split at he
   ·rename_i hh
    obtain⟨rfl,rfl,hle,hag⟩:=hh
    simp at he;subst he
    generalize ha:a.eval x=v at hr ex
    cases hr with
    |rptr h1 h2 h3 h4 h5 _=>
     rename_i q len cap kk k h6
     obtain⟨_,_,N,r1,r2,_,_⟩:=h.eh b _ (zaV hl h.gs)
     obtain⟨f,r3,_,r4⟩:=r1.rd
     obtain⟨xs,hxs,hcl,h0,hcase⟩:=r1
     rw [h2]at r3 hcase
     have hk:k.toNat<len:=by omega
     have hxl:xs.length=len:=by
      rcases hcase with⟨_,⟨_,hv⟩,_⟩|⟨_,_,_,hv,_⟩
      ·cases hv;omega
      ·simp at hv;exact hv.2.1.symm
     have hsz:((c0.den c.ρ).nth k.toNat).cells.length=sz:=by
      rw [hxs];exact hcl _ (List.mem_of_getElem? (znW (xs:=xs) (by omega)))
     obtain⟨v',q',g1,g2,g3⟩:=zpy r3 hk hsz hty hle hag
     refine zbJ.pure h (v:=v') ?_ (.e (f:=q') ?_ ?_ .nil) rfl
     ·rw [ex];rw [Nat.zero_add]at g1;simp [g1]
     ·simpa [E.den,AV.idx,h3]using g3
     ·exact fun z hz=>r2 z (r4 z (g2 z hz))
   ·cases he
  ·rename_i e0 sz' l g' ep c0 hl
   split at he
   ·rename_i hh
    obtain⟨rfl,rfl,hle,hag⟩:=hh
    generalize ha:a.eval x=v at hr ex
    have hE:=h.eh b _ (zaV hl h.gs)
    obtain⟨u,k1,k2,k3,k4⟩:=zxy (P:=P) (t:=t) hE hr hty hle hag
    have hrun:(execOp a.eval o).run P c.w= .ok (.value u) c.w:=by rw [ex,k1];rfl
    split at he
    ·rename_i hf
     simp only [Option.some.injEq]at he;subst he
     exact zbJ.pure h hrun (.e (k2 hf) (by simp) .nil) rfl
    ·simp only [Option.some.injEq]at he;subst he
     cases hr with
     |rptr h1 _ _ _ _ _=>
      refine zbJ.pure h hrun (.via h1 (Nat.le_of_eq hE.2.2.1.symm) (fun _=>⟨k3, ?_⟩) .nil) rfl
      split
      ·exact trivial
      ·rename_i hag';exact k4 (by simpa using hag')
   ·cases he
  ·cases he
 ·rename_i b g m pth y i sz o'
  split at he
  ·rename_i hh
   obtain⟨hle,hag,hv⟩:=hh
   have hE:=znv h.eh h.gs hv
   generalize ha:a.eval x=v at hr ex
   cases hr with
   |vptr h1 h2 h3 _=>
    obtain⟨q,off,len,cap,kk,k,⟨f,p1,p2⟩,_,p4,p5,p6,p7,rfl⟩:=h3 hE
    obtain⟨v',q',g1,g2,g3⟩:=zpy (fo:=o') p1 (by omega) p7 hty hle hag
    have hrun:(execOp a.eval o).run P c.w= .ok (.value v') c.w:=by rw [ex];simp [g1]
    have hden:Rd c.w [v'] [(E.fld (.idx y i) o' (P.cellsOf t) (zaY P t)).den c.ρ] q':=by simpa [E.den,AV.idx,p4]using g3
    split at he
    ·simp only [Option.some.injEq]at he;subst he
     obtain⟨f1,f2,f3,f4⟩:=hc1 hc'
     have hq:q'= []:=by
      cases hg:zaY P t with
      |true=>
       obtain⟨cs,hcs⟩:=f3 hg
       obtain⟨as,rfl,_,r⟩:=zjx hden hcs
       exact zfT r (by rw [hcs]at f2;exact f2)
      |false=>exact zfT hden (by simpa using f4 hg)
     subst hq
     exact zbJ.pure h hrun (.e hden (by simp) .nil) rfl
    ·simp only [Option.some.injEq]at he;subst he
     exact zbJ.pure h hrun (.via h1 h2 (fun _=>⟨⟨q',hden,fun z hz=>p2 z (List.mem_of_mem_tail (g2 z hz))⟩,trivial⟩) .nil) rfl
  ·cases he
 ·rename_i y i sz o'
  split at he
  ·rename_i hh
   obtain⟨hle,hag⟩:=hh
   simp at he;subst he
   generalize ha:a.eval x=v at hr ex
   cases hr with
   |eptr h1 h2 h3 h4 h5 h6 _=>
    rename_i q off len cap f kk k
    obtain⟨v',q',g1,g2,g3⟩:=zpy (fo:=o') h1 (by omega) h6 hty hle hag
    refine zbJ.pure h (v:=v') ?_ (.e (f:=q') (by simpa [E.den,AV.idx,h3]using g3) (fun z hz=>h2 z (List.mem_of_mem_tail (g2 z hz))) .nil) rfl
    rw [ex];simp [g1]
  ·cases he
 ·rename_i y o'
  split at he
  ·rename_i hag
   simp at he;subst he
   generalize ha:a.eval x=v at hr ex
   cases hr with
   |pptr h1 h2 _=>
    rename_i q f
    obtain⟨z,hz,hle⟩:=hc1 hc'
    rw [hz]at h1
    cases h1 with
    |ref hb hb' hr1 hr2=>
     rename_i C ty fz f1 f2
     obtain⟨q',g1,g2⟩:=hr1.fldOf hb' o' (P.cellsOf t) (zaY P t) hle (fun h=>by rcases hag with h'|h';rw [h]at h';cases h';exact h')
     have hlc:((C.toList.drop o').take (P.cellsOf t)).length=P.cellsOf t:=by
      have:=hr1.len
      rw [List.length_take,List.length_drop];omega
     refine zbJ.pure h ?_ (.e (f:=q') (by simpa [E.den,hz,AV.deref]using g2) (fun z hz=>h2 z (by simp [g1 z hz])) .nil) rfl
     rw [ex,zgE hty ((C.toList.drop o').take (P.cellsOf t)) (fun _=>hlc) (fun h=>by rw [hlc];rcases hag with h'|h';rw [h]at h';cases h';exact h') (fun j u hu=>by
       rw [zax hb]
       rw [List.getElem?_take]at hu
       split at hu
       ·simpa using hu
       ·cases hu)]
     simp
  ·cases he
 ·cases he
end
end Go.Proofs.YtecngjbpbnfegaaGreatDoor
end
section
namespace Go.Proofs.YtecngjbpbnfegaaGreatDoor
open Go.RowKit
theorem zlU (k:IntKind) (n:Int):InK k n↔k.min≤n∧n≤k.max:=by
 unfold InK
 cases k<;>simp only [IntKind.wrap,IntKind.bits,IntKind.signed,IntKind.min,IntKind.max]<;>simp<;>(try split)<;>omega
theorem zoG (k:IntKind) (n:Int):InK k (k.wrap n):=by
 rw [zlU]
 cases k<;>simp only [IntKind.wrap,IntKind.bits,IntKind.signed,IntKind.min,IntKind.max]<;>simp<;>(try split)<;>omega
theorem zu9 {k:IntKind} {x y:Int} (h:InK k x):InK k (x.tmod y):=by
 rw [zlU]at h ⊢
 have h1:(x.tmod y).natAbs≤x.natAbs:=by rw [Int.natAbs_tmod];exact Nat.mod_le _ _
 have h2:0≤x→0≤x.tmod y:=Int.tmod_nonneg y
 have hmin:k.min≤0:=by cases k<;>decide
 have hmax:0≤k.max:=by cases k<;>decide
 constructor
 ·by_cases h0:0≤x
  ·have:=h2 h0;omega
  ·omega
 ·by_cases h0:0≤x
  ·omega
  ·have h3:x.tmod y≤0:=by
    have:=Int.tmod_nonneg (a:= -x) y (by omega)
    rw [Int.neg_tmod]at this;omega
   omega
theorem zuE {k:IntKind} {x:Int} (m:Nat) (h:InK k x):InK k (x.fdiv (2^m)):=by
 rw [zlU]at h ⊢
 have hp:(0:Int)<2^m:=Int.pow_pos (by decide)
 rw [Int.fdiv_eq_ediv_of_nonneg _ (Int.le_of_lt hp)]
 have hmin:k.min≤0:=by cases k<;>decide
 have hmax:0≤k.max:=by cases k<;>decide
 have h1:(1:Int)≤2^m:=hp
 constructor
 ·rcases Int.le_total 0 x with h0|h0
  ·have:=Int.ediv_nonneg h0 (Int.le_of_lt hp);omega
  ·have:x≤x/2^m:=by
    rw [Int.le_ediv_iff_mul_le hp]
    have:=Int.mul_le_mul_of_nonpos_left h0 h1
    omega
   omega
 ·rcases Int.le_total 0 x with h0|h0
  ·have:=Int.ediv_le_self (2^m) h0;omega
  ·have h2:x/2^m≤0:=by
    have:=Int.ediv_le_ediv hp h0
    simpa using this
   omega
theorem zAS {op:BinOp} {k:IntKind} {x y:Int} (hx:InK k x) (w:World): ∃v,Rd w [v] [zbb op k x y] []:=by
 cases op<;>simp only [zbb]<;>first
  |exact⟨_, .int (zoG _ _) .nil⟩
  |exact⟨_, .bool .nil⟩
  |exact⟨_, .int (zu9 hx) .nil⟩
  |exact⟨_, .int (zuE _ hx) .nil⟩
section
variable {P:Program} {c:Cx} {n nx:Nat} {sl sl0:Nat→SV} {hp hp0:Nat→Option Ent} {a:Act} {o:Oper} {gs:Gd} {e:Eff} {sg:SgT} {nv:Nat}
def AV.val:AV→Value
 | .int k n=> .int k n
 | .bool b=> .bool b
 | .str s=> .string ⟨s.toArray⟩
 |_=>Go.undef
theorem zvw {op:BinOp} {k k':IntKind} {x y:Int} (hk:k=k'∨op= .shl∨op= .shr) (hz:op= .quo∨op= .rem→y≠0) (hs:op= .shl∨op= .shr→0≤y) (t:TypeId) (p q:Operand) (w:World):
  (do eqGuard op t p q (.int k x) (.int k' y);binOp op t (.int k x) (.int k' y):Sem Value).run P w= .ok (zbb op k x y).val w:=by
 have hg:=eqGuard_at_int op t p q (.int k' y) k x
 cases op<;>simp only [reduceCtorEq,or_false,or_true,or_self]at hk hz hs<;>simp only [hg]
 all_goals first
  |(subst hk;simp [binOp,Op.intArith,Op.intCmp,Op.intBits,zbb,AV.val];done)
  |(subst hk;have:=hz trivial;simp [binOp,Op.intDiv,zbb,AV.val,this];done)
  |(have:=hs trivial;simp [binOp,Op.shift,zbb,AV.val,Int.not_lt.2 this];done)
theorem zw2 {op:BinOp} {k:IntKind} {x y:Int} (hx:InK k x) (w:World):Rd w [(zbb op k x y).val] [zbb op k x y] []:=by
 cases op<;>simp only [zbb,AV.val]<;>first
  |exact .int (zoG _ _) .nil
  |exact .bool .nil
  |exact .int (zu9 hx) .nil
  |exact .int (zuE _ hx) .nil
theorem Rd.ne_undef {w:World} {v:Value} {x:AV} {f:List Nat} (h:Rd w [v] [x] f):x≠ .undef:=by
 rintro rfl;cases h
theorem zp6 {ρ:List AV}: ∀(x:E) {k:IntKind},zdz x=some k→x.den ρ≠ .undef→ ∃m,x.den ρ= .int k m
 | .int k n,_,h,_=>by simp [zdz]at h;subst h;exact⟨n,rfl⟩
 | .len y,_,h,hd=>by
  simp [zdz]at h;subst h
  simp only [E.den,AV.len]at hd ⊢
  split at hd
  ·exact⟨_,rfl⟩
  ·exact absurd rfl hd
 | .slen y,_,h,hd=>by
  simp [zdz]at h;subst h
  simp only [E.den,AV.slen]at hd ⊢
  split at hd
  ·exact⟨_,rfl⟩
  ·exact absurd rfl hd
 | .conv k y,_,h,hd=>by
  simp [zdz]at h;subst h
  simp only [E.den,AV.conv]at hd ⊢
  split at hd
  ·exact⟨_,rfl⟩
  ·exact absurd rfl hd
 | .bin op x y,k,h,hd=>by
  simp only [E.den]at hd ⊢
  have hx:x.den ρ≠ .undef:=by rintro hh;rw [hh]at hd;exact hd (by simp [AV.bin])
  cases op<;>simp only [zdz,reduceCtorEq]at h
  all_goals
   obtain⟨m,hm⟩:=zp6 x h hx
   rw [hm]at hd ⊢
   cases hy:y.den ρ<;>rw [hy]at hd<;>simp only [AV.bin]at hd ⊢ <;>first
    |exact absurd rfl hd
    |(split at hd
      ·rename_i hk;rw [if_pos hk];exact⟨_,rfl⟩
      ·exact absurd rfl hd)
 | .var _,_,h,_=>by simp [zdz]at h
 | .bool _,_,h,_=>by simp [zdz]at h
 | .str _,_,h,_=>by simp [zdz]at h
 | .nilp,_,h,_=>by simp [zdz]at h
 | .lst _,_,h,_=>by simp [zdz]at h
 | .mk _,_,h,_=>by simp [zdz]at h
 | .tup _,_,h,_=>by simp [zdz]at h
 | .ref _,_,h,_=>by simp [zdz]at h
 | .fn ..,_,h,_=>by simp [zdz]at h
 | .fld ..,_,h,_=>by simp [zdz]at h
 | .proj ..,_,h,_=>by simp [zdz]at h
 | .deref _,_,h,_=>by simp [zdz]at h
 | .idx ..,_,h,_=>by simp [zdz]at h
 | .sidx ..,_,h,_=>by simp [zdz]at h
 | .win ..,_,h,_=>by simp [zdz]at h
 | .swin ..,_,h,_=>by simp [zdz]at h
 | .app ..,_,h,_=>by simp [zdz]at h
 | .set ..,_,h,_=>by simp [zdz]at h
 | .put ..,_,h,_=>by simp [zdz]at h
 | .rep ..,_,h,_=>by simp [zdz]at h
 | .sbin ..,_,h,_=>by simp [zdz]at h
 | .bbin ..,_,h,_=>by simp [zdz]at h
 | .not _,_,h,_=>by simp [zdz]at h
 | .neg _,_,h,_=>by simp [zdz]at h
 | .ite ..,_,h,_=>by simp [zdz]at h
 | .bytes _,_,h,_=>by simp [zdz]at h
 | .text _,_,h,_=>by simp [zdz]at h
end
end Go.Proofs.YtecngjbpbnfegaaGreatDoor
end
section
namespace Go.Proofs.YtecngjbpbnfegaaGreatDoor
open Go.RowKit
section
variable {P:Program} {c:Cx} {n nx:Nat} {sl sl0:Nat→SV} {hp hp0:Nat→Option Ent} {a:Act} {o:Oper} {gs:Gd} {e:Eff} {sg:SgT} {nv:Nat}
theorem zdr {s:SV} {v:Value} {x:E} (h:SR c [s] [v]) (hx:zcA s=some x): ∃f,Rd c.w [v] [x.den c.ρ] f∧ ∀b∈f,c.ok b:=by
 cases s<;>simp only [zcA,Option.some.injEq,reduceCtorEq]at hx
 subst hx
 cases h with
 |e h1 h2 _=>exact⟨_,h1,h2⟩
theorem SR.ofRd0 {v:Value} {x:E} (h:Rd c.w [v] [x.den c.ρ] []):SR c [.e x] [v]:= .e h (by simp) .nil
theorem zvq {ρ:List AV} {op:BinOp} {x y:E} {w:World} {v u:Value} {f g:List Nat} (h1:Rd w [v] [x.den ρ] f) (h2:Rd w [u] [y.den ρ] g) (hd:zkz (.bin op x y)=true→(E.bin op x y).den ρ≠ .undef):
  ∃k k' p q,x.den ρ= .int k p∧y.den ρ= .int k' q∧(k=k'∨op= .shl∨op= .shr)∧(E.bin op x y).den ρ=zbb op k p q∧InK k p∧v= .int k p∧u= .int k' q:=by
 have key:(∃k k' p q,x.den ρ= .int k p∧y.den ρ= .int k' q∧(k=k'∨op= .shl∨op= .shr)):=by
  by_cases hn:zkz (.bin op x y)=true
  ·have:=hd hn
   simp only [E.den]at this
   cases hx:x.den ρ<;>cases hy:y.den ρ<;>simp only [hx,hy,AV.bin,ne_eq,not_true_eq_false]at this
   split at this
   ·exact⟨_,_,_,_,rfl,rfl,by assumption⟩
   ·exact absurd rfl this
  ·have hn:zkz (.bin op x y)=false:=by simpa using hn
   have hk:(zdz x).isSome=true∧(zdz x==zdz y)=true:=by
    cases op<;>simp [zkz]at hn<;>simpa using hn
   obtain⟨k,hk1⟩:=Option.isSome_iff_exists.1 hk.1
   have hk2:zdz y=some k:=by rw [←beq_iff_eq.1 hk.2,hk1]
   obtain⟨p,hp⟩:=zp6 x hk1 h1.ne_undef
   obtain⟨q,hq⟩:=zp6 y hk2 h2.ne_undef
   exact⟨k,k,p,q,hp,hq, .inl rfl⟩
 obtain⟨k,k',p,q,hp,hq,hkk⟩:=key
 obtain⟨hv,hin⟩:=zhn h1 hp
 obtain⟨hu,_⟩:=zhn h2 hq
 exact⟨k,k',p,q,hp,hq,hkk,by simp only [E.den,hp,hq,AV.bin,if_pos hkk],hin,hv,hu⟩
theorem zsc (a b:ByteArray):(a.toList==b.toList)=(a.data.toList==b.data.toList):=by rw [ByteArray.toList_eq,ByteArray.toList_eq]
theorem zsq {α β γ:Type} (r:Result α) (f:α→World→Result β) (g:β→World→Result γ):(r.andThen f).andThen g=r.andThen fun a w=>(f a w).andThen g:=by cases r<;>rfl
theorem zne (d:Nat) {t:TypeId} (p q:Bool) (h:P.underlying t=some .bool) (w:World):(Op.equalIn (d+1) t (.bool p) (.bool q)).run P w= .ok (p==q) w:=by
 simp [Op.equalIn,run_underlying h]
theorem zvD {t:TypeId} (p q:Bool) (h:P.underlying t=some .bool) (w:World):(binOp .eql t (.bool p) (.bool q)).run P w= .ok (.bool (p==q)) w:=by
 simp only [binOp]
 simp [Op.equal,Op.maxDepth,zne 9999 p q h]
theorem zvn {t:TypeId} (p q:Bool) (h:P.underlying t=some .bool) (w:World):(binOp .neq t (.bool p) (.bool q)).run P w= .ok (.bool (!(p==q))) w:=by
 simp only [binOp]
 simp [Op.equal,Op.maxDepth,zne 9999 p q h]
theorem zoT {op:BinOp} {t ty:TypeId} {x y:Operand} (ho:o.op= .binOp op t x y ty) (w:World) {v u:Value} (hv:a.eval x=v) (hu:a.eval y=u):
  (execOp a.eval o).run P w=((do eqGuard op t x y v u;binOp op t v u:Sem Value).run P w).andThen fun v w=> .ok (.value v) w:=by
 simp only [execOp,ho,hv,hu,Sem.run_bind,zsq,Sem.run_pure]
theorem zk9 (h:Pre P c n nx sl hp a sl0 hp0 o gs) {op:BinOp} {t el:TypeId} {x y:Operand} {ty:TypeId} (ho:o.op= .binOp op t x y ty) (hu:P.underlying t=some (.slice el)) (r1:SR c [.nils] [a.eval x]) (r2:SR c [.nils] [a.eval y])
  (hop:op= .eql∨op= .neq):zbJ P o c n nx sl hp gs a {val:= .e (.bool (op== .eql))}:=by
 have ex:=fun(v u:Value) (hv:a.eval x=v) (hu:a.eval y=u)=>zoT (P:=P) (o:=o) ho c.w hv hu
 generalize hv1:a.eval x=v1 at r1
 generalize hv2:a.eval y=v2 at r2
 cases r1 with
 |nils _=>cases r2 with
  |nils _=>
   refine zbJ.pure h (v:= .bool (op== .eql)) ?_ (.ofRd0 (.bool .nil)) rfl
   rw [ex _ _ hv1 hv2,eqGuard_at_slice]
   rcases hop with rfl|rfl
   ·simp [run_eql_nil_slice c.w t el none 0 0 0 0 hu]
   ·simp [run_neq_nil_slice c.w t el none 0 0 0 0 hu]
theorem ztg (h:Pre P c n nx sl hp a sl0 hp0 o gs) {op:BinOp} {t:TypeId} {x y:Operand} {ty:TypeId} (ho:o.op= .binOp op t x y ty) {s1 s2:SV} (r1:SR c [s1] [a.eval x]) (r2:SR c [s2] [a.eval y])
  {x' y':E} (hx':zcA s1=some x') (hy':zcA s2=some y') (hd:zkz (.bin op x' y')=true→Cn.den c.ρ (.dfd (.bin op x' y'))) (hnz:op= .quo∨op= .rem→Cn.den c.ρ (.nz y')) (hnn:op= .shl∨op= .shr→Cn.den c.ρ (.nn y')) {ck:List Cn}:
  zbJ P o c n nx sl hp gs a {chk:=ck,val:= .e (.bin op x' y')}:=by
 obtain⟨f1,g1,_⟩:=zdr r1 hx'
 obtain⟨f2,g2,_⟩:=zdr r2 hy'
 obtain⟨k,k',p,q,e1,e2,hkk,e3,hin,hv,hu'⟩:=zvq (op:=op) g1 g2 hd
 refine zbJ.pure h (v:=(zbb op k p q).val) ?_ (.ofRd0 (by rw [e3];exact zw2 hin _)) rfl
 rw [zoT ho c.w hv hu',zvw hkk (fun hop=> ?_) (fun hop=> ?_)]
 ·simp
 ·obtain⟨_,m,hm,hm0⟩:=hnz hop
  rw [e2]at hm;cases hm;exact hm0
 ·obtain⟨_,m,hm,hm0⟩:=hnn hop
  rw [e2]at hm;cases hm;exact hm0
theorem ztR (h:Pre P c n nx sl hp a sl0 hp0 o gs) {op:BinOp} {t:TypeId} {x y:Operand} {ty:TypeId} (ho:o.op= .binOp op t x y ty) {s1 s2:SV} (r1:SR c [s1] [a.eval x]) (r2:SR c [s2] [a.eval y])
  {x' y':E} (hx':zcA s1=some x') (hy':zcA s2=some y') (hd:Cn.den c.ρ (.dfd (.sbin op x' y'))) (hroom:op= .add→Cn.den c.ρ (.roomS x' y')) {ck:List Cn}:
  zbJ P o c n nx sl hp gs a {chk:=ck,val:= .e (.sbin op x' y')}:=by
 obtain⟨f1,g1,_⟩:=zdr r1 hx'
 obtain⟨f2,g2,_⟩:=zdr r2 hy'
 have hd:AV.sbin op (x'.den c.ρ) (y'.den c.ρ)≠ .undef:=hd
 cases hx:x'.den c.ρ<;>cases hy:y'.den c.ρ<;>simp only [hx,hy,AV.sbin,ne_eq,not_true_eq_false]at hd
 obtain⟨b1,hv1,rfl,_⟩:=zrp g1 hx
 obtain⟨b2,hv2,rfl,_⟩:=zrp g2 hy
 have hle:op= .add→b1.size+b2.size≤9223372036854775807:=fun hop=>by
  obtain⟨p,q,hp,hq,hle⟩:=hroom hop
  rw [hx]at hp;rw [hy]at hq;cases hp;cases hq
  simpa using hle
 refine zbJ.pure h (v:=match op with| .add=> .string (b1++b2)|_=>(ztJ op b1.data.toList b2.data.toList).val) ?_ (.ofRd0 ?_) rfl
 ·rw [zoT ho c.w hv1 hv2,eqGuard_at_string]
  cases op<;>first
   |(exact absurd rfl hd)
   |(have:=hle rfl;simp [binOp,Op.stringOp];omega)
   |(simp [binOp,Op.stringOp,ztJ,AV.val,ByteArray.toList_eq,bne];done)
 ·simp only [E.den,hx,hy,AV.sbin]
  cases op<;>simp only [ztJ,AV.val,ne_eq,not_true_eq_false]at hd ⊢ <;>first
   |exact .bool .nil
   |(have:=hle rfl
     have h9:=Rd.str (w:=c.w) (s:=b1++b2) (by simpa using this) .nil
     simpa using h9)
theorem zsr (h:Pre P c n nx sl hp a sl0 hp0 o gs) {op:BinOp} {t:TypeId} {x y:Operand} {ty:TypeId} (ho:o.op= .binOp op t x y ty) (hu:P.underlying t=some .bool) {s1 s2:SV} (r1:SR c [s1] [a.eval x]) (r2:SR c [s2] [a.eval y])
  {x' y':E} (hx':zcA s1=some x') (hy':zcA s2=some y') (hd:Cn.den c.ρ (.dfd (.bbin op x' y'))) {ck:List Cn}:
  zbJ P o c n nx sl hp gs a {chk:=ck,val:= .e (.bbin op x' y')}:=by
 obtain⟨f1,g1,_⟩:=zdr r1 hx'
 obtain⟨f2,g2,_⟩:=zdr r2 hy'
 have hd:AV.bbin op (x'.den c.ρ) (y'.den c.ρ)≠ .undef:=hd
 cases hx:x'.den c.ρ<;>cases hy:y'.den c.ρ<;>simp only [hx,hy,AV.bbin,ne_eq,not_true_eq_false]at hd
 rename_i p q
 have hv1:=zgG g1 hx
 have hv2:=zgG g2 hy
 refine zbJ.pure h (v:=(AV.bbin op (.bool p) (.bool q)).val) ?_ (.ofRd0 ?_) rfl
 ·rw [zoT ho c.w hv1 hv2,eqGuard_at_bool]
  cases op<;>simp only [ne_eq,not_true_eq_false]at hd
  ·simp [zvD p q hu,AV.bbin,AV.val]
  ·simp [zvn p q hu,AV.bbin,AV.val,bne]
 ·simp only [E.den,hx,hy]
  cases op<;>simp only [AV.bbin,AV.val,ne_eq,not_true_eq_false]at hd ⊢ <;>exact .bool .nil
theorem zyE (h:Pre P c n nx sl hp a sl0 hp0 o gs) {op:BinOp} {t:TypeId} {x y:Operand} {ty:TypeId} (ho:o.op= .binOp op t x y ty) (hns: ∀fs,P.underlying t≠some (.struct fs)) (he:zb2 P sg sl0 hp0 nv nx gs o=some e) (hq:e.nilq=none) (hc: ∀q∈e.chk,Cn.den c.ρ q):zbJ P o c n nx sl hp gs a e:=by
 have hm1:x∈o.op.operands:=by simp [ho,Op.operands]
 have hm2:y∈o.op.operands:=by simp [ho,Op.operands]
 simp only [zb2,ho,Option.bind_eq_some_iff]at he
 obtain⟨s1,hs1,s2,hs2,he⟩:=he
 have r1:=h.opd hs1 hm1
 have r2:=h.opd hs2 hm2
 unfold zrt at he
 split at he
 ·rename_i el hu
  split at he
  ·simp at he;subst he
   exact zk9 h ho hu r1 r2 (.inl rfl)
  ·simp at he;subst he
   exact zk9 h ho hu r1 r2 (.inr rfl)
  ·obtain⟨_,_,rfl⟩:=Option.map_eq_some_iff.1 he;cases hq
  ·obtain⟨_,_,rfl⟩:=Option.map_eq_some_iff.1 he;cases hq
  ·cases he
 ·rename_i kk hu
  split at he
  ·rename_i x' y' hx' hy'
   simp at he;subst he
   exact ztg h ho r1 r2 hx' hy' (fun hn=>hc _ (by simp [hn])) (fun hop=>hc _ (by rcases hop with rfl|rfl<;>simp)) (fun hop=>hc _ (by rcases hop with rfl|rfl<;>simp))
  ·cases he
 ·rename_i hu
  split at he
  ·rename_i x' y' hx' hy'
   simp at he;subst he
   exact ztR h ho r1 r2 hx' hy' (hc _ (by simp)) (fun hop=>hc _ (by subst hop;simp))
  ·cases he
 ·rename_i hu
  split at he
  ·rename_i x' y' hx' hy'
   simp at he;subst he
   exact zsr h ho hu r1 r2 hx' hy' (hc _ (by simp))
  ·cases he
 ·rename_i fs hu;exact absurd hu (hns fs)
 ·cases he
end
end Go.Proofs.YtecngjbpbnfegaaGreatDoor
end
section
namespace Go.Proofs.YtecngjbpbnfegaaGreatDoor
open Go.RowKit
section
variable {P:Program} {c:Cx} {n nx:Nat} {sl sl0:Nat→SV} {hp hp0:Nat→Option Ent} {a:Act} {o:Oper} {gs:Gd} {e:Eff} {sg:SgT} {nv:Nat}
theorem zmB {t:TypeId} (h:zlS P t=true) (cs:List Value) (off:Nat) (hle:off+P.cellsOf t≤cs.length) (hg:zaY P t=true∨P.cellsOf t=1) (w:World):
  (part t cs.toArray off).run P w= .ok (if zaY P t then .agg ((cs.drop off).take (P.cellsOf t)).toArray else((cs.drop off).take (P.cellsOf t)).headD Go.undef) w:=by
 cases ha:zaY P t with
 |true=>
  simp only [part,Sem.run_bind,zjv h,ha,zfz h,Result.andThen_ok,if_true,Sem.run_pure]
  congr 2
  apply Array.ext'
  rw [Array.toList_extract]
  simp [Nat.add_sub_cancel_left,List.extract_eq_take_drop]
 |false=>
  have h1:P.cellsOf t=1:=by rcases hg with h'|h';rw [ha]at h';cases h';exact h'
  have hlt:off<cs.length:=by omega
  have e1:(cs.drop off).take (P.cellsOf t)= [cs[off]]:=by rw [h1,List.drop_eq_getElem_cons hlt,List.take_succ_cons,List.take_zero]
  rw [e1]
  simp [part,zjv h,ha,hlt]
theorem zvG (h:Pre P c n nx sl hp a sl0 hp0 o gs) {t:TypeId} {x:Operand} {f:Nat} (ho:o.op= .field t x f) (he:zb2 P sg sl0 hp0 nv nx gs o=some e) (hc: ∀q∈e.chk,Cn.den c.ρ q):zbJ P o c n nx sl hp gs a e:=by
 have hm:x∈o.op.operands:=by simp [ho,Op.operands]
 simp only [zb2,ho,Option.bind_eq_some_iff]at he
 obtain⟨s,hs,he⟩:=he
 have hr:=h.opd hs hm
 split at he
 ·rename_i fs hu
  split at he
  ·rename_i fd hf
   split at he
   ·cases he
   ·rename_i hty
    have hty:zlS P fd.type=true:=by simpa using hty
    have ex: ∀as:List Value,a.eval x= .agg as.toArray→(execOp a.eval o).run P c.w=((part fd.type as.toArray fd.offset).run P c.w).andThen fun v w=> .ok (.value v) w:=fun as hv=>by
     simp [execOp,ho,Instr.field,run_underlying hu,hf,hv,asAgg]
    split at he
    ·rename_i cs
     obtain⟨s2,hs2,rfl⟩:=Option.map_eq_some_iff.1 he
     generalize hv:a.eval x=v at hr
     cases hr with
     |agg r8 r1 r9=>
      rename_i as
      have hlen:=r1.len
      unfold zuB at hs2
      split at hs2
      ·rename_i hag
       split at hs2
       ·rename_i hle
        simp at hs2;subst hs2
        obtain⟨q1,q2⟩:=r1.split fd.offset
        obtain⟨q3,q4⟩:=q2.split (P.cellsOf fd.type)
        have:=SR.agg (cs:=SVL.of ((cs.toList.drop fd.offset).take (P.cellsOf fd.type))) (fun u hu=>r8 u (List.mem_of_mem_drop (List.mem_of_mem_take hu))) (by rw [SVL.toList_of];exact q3) .nil
        refine zbJ.pure h (v:= .agg ((as.drop fd.offset).take (P.cellsOf fd.type)).toArray) ?_ this rfl
        rw [ex as hv,zmB hty as fd.offset (by omega) (.inl hag)]
        simp [hag]
       ·cases hs2
      ·rename_i hag
       have hag:zaY P fd.type=false:=by simpa using hag
       obtain⟨u,hu',r⟩:=r1.get hs2
       refine zbJ.pure h (v:=u) ?_ r rfl
       rw [ex as hv]
       simp [part,zjv hty,hag,hu']
    ·rename_i y
     split at he
     ·rename_i hh
      obtain⟨hle,hag⟩:=hh
      simp at he;subst he
      generalize hv:a.eval x=v at hr
      cases hr with
      |e h1 h2 _=>
       rename_i f1
       obtain⟨cs,hcs,hcl⟩:=hc1 hc
       obtain⟨as,rfl,hr2',hr2⟩:=zjx h1 hcs
       have hlen:=hr2.len
       have hcel:(y.den c.ρ).cells=cs:=by rw [hcs];rfl
       rw [←hcel]at hr2
       obtain⟨q,g1,g2⟩:=hr2.fldOf hr2' fd.offset (P.cellsOf fd.type) (zaY P fd.type) (by rw [hcel];omega) (fun hh=>by rcases hag with h'|h';rw [hh]at h';cases h';exact h')
       refine zbJ.pure h ?_ (.e (f:=q) (by simpa [E.den]using g2) (fun z hz=>h2 z (g1 z hz)) .nil) rfl
       rw [ex as hv,zmB hty as fd.offset (by omega) hag]
       simp
     ·cases he
    ·rename_i b g m pth y
     split at he
     ·rename_i hh
      obtain⟨hle,hag,hvo⟩:=hh
      have hE:=znv h.eh h.gs hvo
      generalize hv:a.eval x=v at hr
      have hagg:Cn.den c.ρ (.agg y (P.cellsOf t)):=by
       split at he<;>(simp only [Option.some.injEq]at he;subst he;exact hc1 hc)
      cases hr with
      |via h1 h2 h3 _=>
       obtain⟨⟨f1,p1,p2⟩,_⟩:=h3 hE
       obtain⟨cs,hcs,hcl⟩:=hagg
       obtain⟨as,rfl,hr2',hr2⟩:=zjx p1 hcs
       have hlen:=hr2.len
       have hcel:(y.den c.ρ).cells=cs:=by rw [hcs];rfl
       rw [←hcel]at hr2
       obtain⟨q,g1,g2⟩:=hr2.fldOf hr2' fd.offset (P.cellsOf fd.type) (zaY P fd.type) (by rw [hcel];omega) (fun hh=>by rcases hag with h'|h';rw [hh]at h';cases h';exact h')
       have hrun:=ex as hv
       rw [zmB hty as fd.offset (by omega) hag]at hrun
       simp only [Result.andThen_ok]at hrun
       have hden:Rd c.w _ [(E.fld y fd.offset (P.cellsOf fd.type) (zaY P fd.type)).den c.ρ] q:=g2
       split at he
       ·simp only [Option.some.injEq]at he;subst he
        obtain⟨e1,e2,e3,e4⟩:=hc (.flat (.fld y fd.offset (P.cellsOf fd.type) (zaY P fd.type)) (P.cellsOf fd.type) (zaY P fd.type)) (by simp)
        have hq:q= []:=by
         cases hg:zaY P fd.type with
         |true=>
          obtain⟨cs,hcs⟩:=e3 hg
          obtain⟨as,_,_,r⟩:=zjx hden hcs
          exact zfT r (by rw [hcs]at e2;exact e2)
         |false=>exact zfT hden (by simpa using e4 hg)
        subst hq
        exact zbJ.pure h hrun (.e hden (by simp) .nil) rfl
       ·simp only [Option.some.injEq]at he;subst he
        exact zbJ.pure h hrun (.via h1 h2 (fun _=>⟨⟨q,hden,fun z hz=>p2 z (g1 z hz)⟩,trivial⟩) .nil) rfl
     ·cases he
    ·cases he
  ·cases he
 ·cases he
theorem zkx {v:Value} {x:AV} {m:Int} {w:World} {f:List Nat} (h:Rd w [v] [x] f) (hx:x.len= .int .i64 m):(∃a c,v= .slice a 0 c∧m=0)∨ ∃b o k c,v= .slice (some ⟨b,o,none⟩) k c∧m=k:=by
 rcases h.kind with h|h|h|h|h|h|h|h|h|h
 ·obtain⟨_,_,_,rfl,_⟩:=h;simp [AV.len]at hx
 ·obtain⟨_,_,rfl,_⟩:=h;simp [AV.len]at hx
 ·obtain⟨_,_,rfl,_⟩:=h;simp [AV.len]at hx
 ·obtain⟨q,r,rfl,rfl,_⟩:=h;simp [AV.len]at hx;exact .inl ⟨q,r,rfl,by omega⟩
 ·obtain⟨b,o,k,r,ys,_,_,_,_,_,_,rfl,rfl,_,_,_,_,hl,_⟩:=h;simp [AV.len]at hx;exact .inr ⟨b,o,k,r,rfl,by omega⟩
 ·obtain⟨_,_,_,rfl,_⟩:=h;simp [AV.len]at hx
 ·obtain⟨_,_,_,rfl,_⟩:=h;simp [AV.len]at hx
 ·obtain⟨_,_,_,_,_,_,_,rfl,_⟩:=h;simp [AV.len]at hx
 ·obtain⟨_,_,_,_,rfl,_⟩:=h;simp [AV.len]at hx
 ·obtain⟨_,rfl,_⟩:=h;simp [AV.len]at hx
theorem zhA {t el:TypeId} (hu:P.underlying t=some (.slice el)) (hz:P.cellsOf el≠0) {b off len cap:Nat} {kk:IntKind} {k:Int} (h0:0≤k) (h1:k<len) (w:World):
  (Instr.indexAt t (.slice (some ⟨b,off,none⟩) len cap) (.int kk k)).run P w= .ok (.pointer (some ⟨b,off+k.toNat*P.cellsOf el,none⟩)) w:=by
 simp [Instr.indexAt,run_underlying hu,asIntOf,h0,h1,zrl hz,Addr.add_lit]
theorem zru (h:Pre P c n nx sl hp a sl0 hp0 o gs) {t:TypeId} {x i:Operand} (ho:o.op= .indexAddr t x i∨o.op= .index t x i) {s1 s2:SV} (hs1:zan sl0 gs x=some s1) (hs2:zan sl0 gs i=some s2)
  (hop:(∃el,P.underlying t=some (.slice el))→o.op= .indexAddr t x i) (hop2:P.underlying t=some .string→o.op= .index t x i)
  (he:zoF P hp0 gs t s1 s2=some e) (hc: ∀q∈e.chk,Cn.den c.ρ q):zbJ P o c n nx sl hp gs a e:=by
 have hm1:x∈o.op.operands:=by rcases ho with ho|ho<;>simp [ho,Op.operands]
 have hm2:i∈o.op.operands:=by rcases ho with ho|ho<;>simp [ho,Op.operands]
 have r1:=h.opd hs1 hm1
 have r2:=h.opd hs2 hm2
 unfold zoF at he
 split at he
 ·rename_i el k hu
  have ho':=hop ⟨el,hu⟩
  have ex:(execOp a.eval o).run P c.w=((Instr.indexAt t (a.eval x) (a.eval i)).run P c.w).andThen fun v w=> .ok (.value v) w:=by simp [execOp,ho']
  split at he
  ·cases he
  rename_i hz
  obtain⟨fk,hk1,_⟩: ∃f,Rd c.w [a.eval i] [k.den c.ρ] f∧ ∀b∈f,c.ok b:=by
   generalize a.eval i=v at r2
   cases r2 with
   |e h1 h2 _=>exact⟨_,h1,h2⟩
  split at he
  ·rename_i b g
   split at he
   ·rename_i e0 sz g' c0 d hl
    split at he
    ·rename_i hh
     obtain⟨rfl,rfl⟩:=hh
     simp at he;subst he
     obtain⟨kk,kv,m,e1,e2,e3,e4,e5⟩:=hc1 hc
     obtain⟨hiv,_⟩:=zhn hk1 e1
     generalize hv:a.eval x=v at r1 ex
     cases r1 with
     |own hK hKv _=>
      obtain⟨_,_,N,q1,q2,_,_⟩:=h.eh b _ (zaV hl h.gs)
      obtain⟨xs,hxs,hcl,h0,hcase⟩:=q1
      rw [hxs]at e3
      simp only [AV.len,AV.int.injEq,true_and]at e3
      rcases hcase with⟨rfl,_⟩|⟨g9,cap,C,hH,_⟩
      ·simp at e3;omega
      ·refine zbJ.pure h (v:= .pointer (some ⟨g9,kv.toNat*P.cellsOf el+0,none⟩)) ?_ (.rptr hK hH e1 e2 (by omega) .nil) rfl
       rw [hKv]at hH;cases hH
       rw [ex,hiv,zhA hu hz e2 (by omega)]
       simp
    ·cases he
   ·rename_i g' c0 hl
    split at he
    ·rename_i hh
     subst hh
     simp at he;subst he
     obtain⟨kk,kv,m,e1,e2,e3,e4,e5⟩:=hc1 hc
     obtain⟨hiv,_⟩:=zhn hk1 e1
     generalize hv:a.eval x=v at r1 ex
     cases r1 with
     |own hK hKv _=>
      obtain⟨_,⟨f,q1,q2⟩,_,_⟩:=h.eh b _ (zaV hl h.gs)
      rcases zkx q1 e3 with⟨_,_,_,hm⟩|⟨b9,off9,len9,cap9,hH,hm⟩
      ·omega
      ·rw [hKv]at hH;cases hH
       rw [hKv]at q1
       refine zbJ.pure h (v:= .pointer (some ⟨b9,off9+kv.toNat*P.cellsOf el+0,none⟩)) ?_ (.eptr q1 q2 e1 e2 (by omega) e5 .nil) rfl
       rw [ex,hiv,zhA hu hz e2 (by omega)]
       simp
    ·cases he
   ·rename_i e0 sz dl g' ep c0 hl
    split at he
    ·rename_i hh
     obtain⟨rfl,rfl⟩:=hh
     simp at he;subst he
     obtain⟨kk,kv,m,e1,e2,e3,e4,e5⟩:=hc1 hc
     obtain⟨hiv,_⟩:=zhn hk1 e1
     generalize hv:a.eval x=v at r1 ex
     cases r1 with
     |own hK hKv _=>
      obtain⟨_,_,_,q1,_⟩:=h.eh b _ (zaV hl h.gs)
      obtain⟨_,_,⟨a9,d3,d4,_⟩|⟨g9,cap,C,ys,N1,hH,d4,_⟩⟩:=q1.inv
      ·rw [d4]at e3
       simp [AV.len]at e3;omega
      ·rw [d4]at e3
       simp only [AV.len,AV.int.injEq,true_and]at e3
       refine zbJ.pure h (v:= .pointer (some ⟨g9,kv.toNat*P.cellsOf el+0,none⟩)) ?_ (.rptr hK hH e1 e2 (by omega) .nil) rfl
       rw [hKv]at hH;cases hH
       rw [ex,hiv,zhA hu hz e2 (by omega)]
       simp
    ·cases he
   ·cases he
  ·rename_i y
   simp at he;subst he
   obtain⟨kk,kv,m,e1,e2,e3,e4,e5⟩:=hc1 hc
   obtain⟨hiv,_⟩:=zhn hk1 e1
   generalize hv:a.eval x=v at r1 ex
   cases r1 with
   |e q1 q2 _=>
    rcases zkx q1 e3 with⟨_,_,_,hm⟩|⟨b9,off9,len9,cap9,rfl,hm⟩
    ·omega
    ·refine zbJ.pure h (v:= .pointer (some ⟨b9,off9+kv.toNat*P.cellsOf el+0,none⟩)) ?_ (.eptr q1 q2 e1 e2 (by omega) e5 .nil) rfl
     rw [ex,hiv,zhA hu hz e2 (by omega)]
     simp
  ·rename_i b g m pth y
   split at he
   ·rename_i hvo
    simp at he;subst he
    have hE:=znv h.eh h.gs hvo
    obtain⟨kk,kv,mm,e1,e2,e3,e4,e5⟩:=hc1 hc
    obtain⟨hiv,_⟩:=zhn hk1 e1
    generalize hv:a.eval x=v at r1 ex
    cases r1 with
    |via q1 q2 q3 _=>
     obtain⟨⟨f,p1,p2⟩,p3⟩:=q3 hE
     rcases zkx p1 e3 with⟨_,_,_,hm⟩|⟨b9,off9,len9,cap9,rfl,hm⟩
     ·omega
     ·refine zbJ.pure h (v:= .pointer (some ⟨b9,off9+kv.toNat*P.cellsOf el+0,none⟩)) ?_ (.vptr q1 q2 (fun _=>⟨b9,off9,len9,cap9,kk,kv,⟨f,p1,p2⟩,p3,e1,e2,by omega,e5,rfl⟩) .nil) rfl
      rw [ex,hiv,zhA hu hz e2 (by omega)]
      simp
   ·cases he
  ·cases he
 ·rename_i k hu
  have ho':=hop2 hu
  obtain⟨fk,hk1,_⟩: ∃f,Rd c.w [a.eval i] [k.den c.ρ] f∧ ∀b∈f,c.ok b:=by
   generalize a.eval i=v at r2
   cases r2 with
   |e h1 h2 _=>exact⟨_,h1,h2⟩
  split at he
  ·rename_i y
   simp at he;subst he
   obtain⟨kk,kv,s,e1,e2,e3,e4⟩:=hc1 hc
   obtain⟨hiv,_⟩:=zhn hk1 e1
   generalize hv:a.eval x=v at r1
   cases r1 with
   |e q1 q2 _=>
    obtain⟨bs,rfl,rfl,hle⟩:=zrp q1 e2
    have hlt:kv.toNat<bs.data.toList.length:=by omega
    have hlt':kv.toNat<bs.size:=by simpa using hlt
    refine zbJ.pure h (v:= .int .u8 (bs[kv.toNat]).toNat) ?_ (.ofRd0 ?_) rfl
    ·simp [execOp,ho',Instr.index,hv,hiv,asIntOf,run_underlying hu,e3,hlt']
    ·simp only [E.den,e1,e2,AV.sidx]
     have:bs.data.toList[kv.toNat]?=some (bs[kv.toNat]):=by
      rw [List.getElem?_eq_getElem hlt];simp [ByteArray.getElem_eq_getElem_data]
     rw [this]
     refine .int ?_ .nil
     rw [zlU]
     have:=(bs[kv.toNat]).toNat_lt
     simp [IntKind.min,IntKind.max,IntKind.signed,IntKind.bits];omega
  ·cases he
 ·cases he
theorem zqt (h:Pre P c n nx sl hp a sl0 hp0 o gs) {t:TypeId} {x i:Operand} (ho:o.op= .indexAddr t x i) (hns:P.underlying t≠some .string) (he:zb2 P sg sl0 hp0 nv nx gs o=some e) (hc: ∀q∈e.chk,Cn.den c.ρ q):zbJ P o c n nx sl hp gs a e:=by
 simp only [zb2,ho,Option.bind_eq_some_iff]at he
 obtain⟨s1,hs1,s2,hs2,he⟩:=he
 split at he
 ·cases he
 exact zru h (.inl ho) hs1 hs2 (fun _=>ho) (fun hh=>absurd hh hns) he hc
theorem ztc (h:Pre P c n nx sl hp a sl0 hp0 o gs) {t:TypeId} {x i:Operand} (ho:o.op= .index t x i) (hns:P.underlying t=some .string) (he:zb2 P sg sl0 hp0 nv nx gs o=some e) (hc: ∀q∈e.chk,Cn.den c.ρ q):zbJ P o c n nx sl hp gs a e:=by
 simp only [zb2,ho,Option.bind_eq_some_iff]at he
 obtain⟨s1,hs1,s2,hs2,he⟩:=he
 split at he
 ·exact zru h (.inr ho) hs1 hs2 (fun⟨el,hh⟩=>by rw [hns]at hh;cases hh) (fun _=>ho) he hc
 ·cases he
theorem ztu (h:Pre P c n nx sl hp a sl0 hp0 o gs) {x:Operand} {i:Nat} (ho:o.op= .extract x i) (he:zb2 P sg sl0 hp0 nv nx gs o=some e) (hc: ∀q∈e.chk,Cn.den c.ρ q):zbJ P o c n nx sl hp gs a e:=by
 have hm:x∈o.op.operands:=by simp [ho,Op.operands]
 simp only [zb2,ho,Option.bind_eq_some_iff]at he
 obtain⟨s,hs,he⟩:=he
 have hr:=h.opd hs hm
 generalize hv:a.eval x=v at hr
 have ex: ∀(as:List Value) u,v= .tuple as.toArray→as[i]?=some u→(execOp a.eval o).run P c.w= .ok (.value u) c.w:=fun as u hv' hu=>by
  simp [execOp,ho,Instr.extract,hv,hv',hu]
 split at he
 ·rename_i vs
  obtain⟨s2,hs2,rfl⟩:=Option.map_eq_some_iff.1 he
  cases hr with
  |tup r1 r9=>
   obtain⟨u,hu,r⟩:=r1.get hs2
   exact zbJ.pure h (ex _ u rfl hu) r rfl
 ·rename_i y
  simp at he;subst he
  cases hr with
  |e q1 q2 _=>
   have hd:(y.den c.ρ).proj i≠ .undef:=hc1 hc
   cases hy:y.den c.ρ<;>simp only [hy,AV.proj,ne_eq,not_true_eq_false]at hd
   rename_i cs
   obtain⟨as,rfl,r1⟩:=zAq q1 hy
   cases hci:cs[i]? with
   |none=>simp [hci]at hd
   |some z=>
    obtain⟨u,g,hu,hg,hrd⟩:=r1.at hci
    exact zbJ.pure h (ex as u rfl hu) (.e (f:=g) (by simpa [E.den,hy,AV.proj,hci]using hrd) (fun b hb=>q2 b (hg b hb)) .nil) rfl
 ·cases he
theorem zyN (h:Pre P c n nx sl hp a sl0 hp0 o gs) {x:Operand} {t:TypeId} (ho:o.op= .unOp .not t x) (he:zb2 P sg sl0 hp0 nv nx gs o=some e) (hc: ∀q∈e.chk,Cn.den c.ρ q):zbJ P o c n nx sl hp gs a e:=by
 have hm:x∈o.op.operands:=by simp [ho,Op.operands]
 simp only [zb2,ho,Option.bind_eq_some_iff,Option.map_eq_some_iff]at he
 obtain⟨s,hs,y,hy,he⟩:=he
 obtain⟨f,q1,_⟩:=zdr (h.opd hs hm) hy
 split at he
 ·subst he
  have hv:=zgG q1 rfl
  rename_i b
  exact zbJ.pure h (v:= .bool (!b)) (by simp [execOp,ho,hv,Op.unary]) (.ofRd0 (.bool .nil)) rfl
 ·subst he
  have hd:(y.den c.ρ).notB≠ .undef:=hc1 hc
  cases hy':y.den c.ρ<;>simp only [hy',AV.notB,ne_eq,not_true_eq_false]at hd
  have hv:=zgG q1 hy'
  rename_i b
  exact zbJ.pure h (v:= .bool (!b)) (by simp [execOp,ho,hv,Op.unary]) (.ofRd0 (by simp only [E.den,hy',AV.notB];exact .bool .nil)) rfl
theorem zyI (h:Pre P c n nx sl hp a sl0 hp0 o gs) {x:Operand} {t:TypeId} (ho:o.op= .unOp .neg t x) (he:zb2 P sg sl0 hp0 nv nx gs o=some e) (hc: ∀q∈e.chk,Cn.den c.ρ q):zbJ P o c n nx sl hp gs a e:=by
 have hm:x∈o.op.operands:=by simp [ho,Op.operands]
 simp only [zb2,ho,Option.bind_eq_some_iff,Option.map_eq_some_iff]at he
 obtain⟨s,hs,y,hy,rfl⟩:=he
 obtain⟨f,q1,_⟩:=zdr (h.opd hs hm) hy
 have hd:(y.den c.ρ).negI≠ .undef:=hc1 hc
 cases hy':y.den c.ρ<;>simp only [hy',AV.negI,ne_eq,not_true_eq_false]at hd
 rename_i k m
 obtain⟨hv,_⟩:=zhn q1 hy'
 exact zbJ.pure h (v:= .int k (k.wrap (0-m))) (by simp [execOp,ho,hv,Op.unary,Op.intArith]) (.ofRd0 (by simp only [E.den,hy',AV.negI];exact .int (zoG _ _) .nil)) rfl
theorem zv2 {L:List Operand} {sl0:Nat→SV} {gs:Gd} (h: ∀x s,zan sl0 gs x=some s→x∈L→SR c [s] [a.eval x]): ∀{xs:List Operand} {ss:List SV},(∀x∈xs,x∈L)→xs.mapM (zan sl0 gs)=some ss→SR c ss (xs.map a.eval)
 | [],ss,_,hm=>by simp at hm;subst hm;exact .nil
 |x::xs,ss,hL,hm=>by
  rw [List.mapM_cons]at hm
  simp only [Option.bind_eq_bind,Option.bind_eq_some_iff]at hm
  obtain⟨s,hs,ss',hss,hm⟩:=hm
  simp at hm;subst hm
  exact(h x s hs (hL x (by simp))).app (zv2 h (fun y hy=>hL y (by simp [hy])) hss)
theorem zrW (h:Pre P c n nx sl hp a sl0 hp0 o gs) {f:FuncId} {fst caps:Array Operand} (ho:o.op= .makeFunc (.func f) fst caps) (he:zb2 P sg sl0 hp0 nv nx gs o=some e):zbJ P o c n nx sl hp gs a e:=by
 simp only [zb2,ho]at he
 split at he
 ·rename_i hf
  obtain⟨ss,hss,rfl⟩:=Option.map_eq_some_iff.1 he
  have hf:fst= #[]:=by simpa using hf
  have r:=zv2 (a:=a) (c:=c) (L:=caps.toList) (fun x s hx hm=>h.opd hx (by simp only [ho,Op.operands,Array.mem_append];exact .inr (Array.mem_toList_iff.1 hm))) (fun x hx=>hx) hss
  refine zbJ.pure h (v:= .func (.func f) #[] (caps.toList.map a.eval).toArray) ?_ (.fn (by rw [SVL.toList_of];exact r) .nil) rfl
  simp [execOp,ho,Instr.makeFunc,hf]
  apply Array.ext';simp
 ·cases he
end
end Go.Proofs.YtecngjbpbnfegaaGreatDoor
end
