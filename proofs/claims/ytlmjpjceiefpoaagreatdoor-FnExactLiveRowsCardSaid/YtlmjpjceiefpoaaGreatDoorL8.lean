/- Parts of a proof, joined: CA, CC, CB. -/
import Derived.Test.YtlmjpjceiefpoaaGreatDoorL7
import Derived.RangeFuncNested
import Derived.RangeFuncBound
import Derived.RangeFuncCalls
import Derived.RangeFuncLeaves
import Derived.Shelf.Abstract
import Derived.Shelf.RegionOpen
import Derived.WalkKit
import Derived.OwnWalkIn
import Derived.TacticsInMore
import Derived.LoopNIn
import Derived.LoopIn
import Derived.Lib.SliceRun
import Derived.Shelf.RegionOpenPlain
set_option linter.unusedVariables false
set_option linter.unusedSimpArgs false
namespace Go.Proofs.YtlmjpjceiefpoaaGreatDoor
section
open Go.RowKit Go.Shelf
attribute [local go_sem] Oper.semAt_some
abbrev VT:=Int × ByteArray × Bool
def vz(zs:List VT)(j:Nat):VT:=(zs[j]?).getD (0,ByteArray.empty,false)
def F3{α:Type}(f:Nat->α)(k:Nat):List α:=(List.range k).map f
theorem zzS{α:Type}(f:Nat->α)(k:Nat):F3 f (k+1)=F3 f k++ [f k]:=by simp[F3,List.range_succ]
theorem zDp{α:Type}(f:Nat->α)(k:Nat):(F3 f k).length=k:=by simp[F3]
def Ly(zs:List VT)(j:Nat):Nat × VT:=(zs.length-1-j,vz zs (zs.length-1-j))
def zMQ(W:World)(b off:Nat)(zs:List VT):Prop:= ∀j,j<zs.length->W.cell? ⟨b,off+j*3,none⟩=some (.int .i64 (vz zs j).1)/\W.cell? ⟨b,off+j*3+1,none⟩=some (.string (vz zs j).2.1)/\W.cell? ⟨b,off+j*3+2,none⟩=some (.bool (vz zs j).2.2)
def Vers(n₀:Nat)(W:World)(sv:Value)(zs:List VT):Prop:=(∃a c,sv= .slice a 0 c/\zs=[])\/ ∃b off cap,sv= .slice (some ⟨b,off,none⟩) zs.length cap/\b<n₀/\zMQ W b off zs
theorem Vers.below{n₀:Nat}{A B:World}(h:Below n₀ A B){sv:Value}{zs:List VT}:Vers n₀ A sv zs->Vers n₀ B sv zs
 | .inl e=> .inl e
 | .inr ⟨b,off,cap,e,hb,hc⟩=> .inr ⟨b,off,cap,e,hb,λj hj=>⟨(h.cell (p:=⟨b,off+j*3,none⟩) hb).trans (hc j hj).1,(h.cell (p:=⟨b,off+j*3+1,none⟩) hb).trans (hc j hj).2.1,(h.cell (p:=⟨b,off+j*3+2,none⟩) hb).trans (hc j hj).2.2⟩⟩
theorem Vers.mono{n₀ n₁:Nat}{W:World}{sv:Value}{zs:List VT}(h:n₀<=n₁):Vers n₀ W sv zs->Vers n₁ W sv zs
 | .inl e=> .inl e
 | .inr ⟨b,off,cap,e,hb,hc⟩=> .inr ⟨b,off,cap,e,by omega,hc⟩
set_option maxRecDepth 100000 in
set_option maxHeartbeats 2000000 in
theorem zMm(F:Fence)(n:Nat)(h7:F.fn 294)(Ez:F.round=none)(hn:1<=n)(l Bs n₀ b off cap:Nat)(zs:List VT)(E8:zs.length*1000<=140737488351232)(hb:b<n₀)(J Jx:List (Nat × VT)->World->Prop)
  (hY:∀pre x W,J pre W->pre.length<zs.length->YieldAt F (n-1) Tryz.prog l #[.int .i64 (x.1:Int), .agg #[.int .i64 x.2.1, .string x.2.2.1, .bool x.2.2.2]] W λe W'=>
   (e= .returned (.bool true)/\J (pre++ [x]) W'/\Below n₀ W W')\/(e= .returned (.bool false)/\Jx (pre++ [x]) W'))
  (W:World) (Jr:W.cell? ⟨Bs,0,none⟩=some (.slice (some ⟨b,off,none⟩) zs.length cap)) (UR:Bs<n₀) (hc:zMQ W b off zs) (h0:J [] W):
  CallsIn F n Tryz.prog 294 #[.func (.yield l) #[] #[], .pointer (some ⟨Bs,0,none⟩)] W λe W'=>(∃v,e= .returned v)/\
   ((∃ys,ys=F3 (Ly zs) zs.length/\J ys W')\/(∃pre,(∃k,k<=zs.length/\pre=F3 (Ly zs) k)/\Jx pre W')):=by
 refine callsIn_of_wp Tryz.func294 rfl h7 ?_ Ez;simp only[Tryz.ntmps294,List.size_toArray,AH,List.length_nil,Nat.reduceAdd,Nat.reduceSub,Array.replicate_succ,Array.replicate_zero,List.push_toArray,List.append_toArray,List.nil_append,List.cons_append];have HC:=Lib.hid hc;obtain⟨len,hlen⟩:∃len,len=zs.length:=⟨_,rfl⟩
 rw[<-hlen]at Jr E8;have HL:=Lib.hid hlen;clear hc hlen
 gi_wp2
 gi_loopw [3] (λi wr=> ∃(k m:Nat) (q:Int),k+m=len/\q=(m:Int)-1/\i= .int .i64 q/\J (F3 (Ly zs) k) wr/\Below n₀ W wr)
  (λi _=>(intOf i+1).toNat)
 case atStart=>exact⟨0,len,_,by omega,rfl,rfl,h0,Below.refl _ _⟩
 case round=>
  obtain⟨k,m,q,hkm,hq,rfl,Y1,PW⟩:=hrel;have hBsr:wr.cell? ⟨Bs,0,none⟩=some (.slice (some ⟨b,off,none⟩) len cap):=(PW.cell (p:=⟨Bs,0,none⟩) UR).trans Jr;cases m with
  |succ m=>
   obtain rfl:q=(m:Int):=by omega
   clear hq;have PN:m<zs.length:=by rw[<-HL.out];omega
   have J5:Ly zs k=(m,vz zs m):=by unfold Ly;rw[show zs.length-1-k=m by rw[<-HL.out];omega]
   have V0:=HC.out m PN;obtain⟨⟨tm,sm,gm⟩,hz⟩:∃x:VT,vz zs m=x:=⟨_,rfl⟩
   rw[hz]at V0 J5;obtain⟨fn,tmps,assign,body,hy,hR⟩:=hY _ (m,tm,sm,gm) wr Y1 (by rw[zDp,<-HL.out];omega);dsimp only at hy;have U7:=(PW.cell (p:=⟨b,off+m*3,none⟩) hb).trans V0.1;have Cl:=(PW.cell (p:=⟨b,off+m*3+1,none⟩) hb).trans V0.2.1;have mH:=(PW.cell (p:=⟨b,off+m*3+2,none⟩) hb).trans V0.2.2;dsimp only at U7 Cl mH;have HB:=Lib.hid J5;have AP:m<len:=by omega
   clear V0 hz J5 PN
   gi_wp2
   refine hR.mono ?_;rintro e W3 (⟨rfl,hJ3,hk3⟩|⟨rfl,lP⟩)
   ·gi_wp2
    go_roundw
    case rel=>exact⟨k+1,m,_,by omega,rfl,by go_num,by rw[zzS,HB.out];exact hJ3,PW.trans hk3⟩
    case measure=>simp[intOf]
   ·gi_wp2
    refine bodyPost_ret (results_none rfl _ _ _) rfl ?_;exact⟨⟨_,rfl⟩, .inr ⟨_,⟨k+1,by rw[<-HL.out];omega,by rw[zzS,HB.out]⟩,lP⟩⟩
  |zero=>
   obtain rfl:q= -1:=by omega
   clear hq
   gi_wp2
   go_end0
   exact⟨⟨_,rfl⟩, .inl ⟨_,by rw[show k=zs.length by rw[<-HL.out];omega],Y1⟩⟩
set_option maxRecDepth 100000 in
set_option maxHeartbeats 1000000 in
theorem zCK(F:Fence)(n:Nat)(h7:F.fn 294)(Ez:F.round=none)(l Bs:Nat)(a:Option Addr)(c:Nat)(J:List (Nat × VT)->World->Prop)(W:World)(Jr:W.cell? ⟨Bs,0,none⟩=some (.slice a 0 c))(h0:J [] W):
  CallsIn F n Tryz.prog 294 #[.func (.yield l) #[] #[], .pointer (some ⟨Bs,0,none⟩)] W λe W'=>(∃v,e= .returned v)/\J [] W':=by
 refine callsIn_of_wp Tryz.func294 rfl h7 ?_ Ez;simp only[Tryz.ntmps294,List.size_toArray,AH,List.length_nil,Nat.reduceAdd,Nat.reduceSub,Array.replicate_succ,Array.replicate_zero,List.push_toArray,List.append_toArray,List.nil_append,List.cons_append]
 gi_wp2
 gi_loopw [3] (λi wr=>i= .int .i64 (-1)/\J [] wr) (λ_ _=>0)
 case atStart=>exact⟨rfl,h0⟩
 case round=>
  obtain⟨rfl,Y1⟩:=hrel
  gi_wp2
  go_end0
  exact⟨⟨_,rfl⟩,Y1⟩
set_option maxHeartbeats 1000000 in
theorem zOi(F:Fence)(n:Nat)(h5:F.fn 238)(Ez:F.round=none)(a:Option Addr)(len cap:Nat)(w:World):
  CallsIn F n Tryz.prog 238 #[.slice a len cap] w λe w'=>e= .returned (.func (.func 294) #[] #[.pointer (some ⟨w.heap.size,0,none⟩)])/\w'=w.alloc (.cells #[.slice a len cap] 204):=by
 refine callsIn_of_wp Tryz.func238 rfl h5 ?_ Ez;simp only[Tryz.ntmps238,List.size_toArray,AH,List.length_nil,Nat.reduceAdd,Nat.reduceSub,Array.replicate_succ,Array.replicate_zero,List.push_toArray,List.append_toArray,List.nil_append,List.cons_append]
 gi_wp2
 go_ret
 exact⟨rfl,rfl⟩
theorem zGj(F:Fence)(n:Nat)(h7:F.fn 294)(Ez:F.round=none)(hn:1<=n)(Bs n₀:Nat)(sv:Value)(zs:List VT)(E8:zs.length*1000<=140737488351232)(w:World)(Jr:Bs<w.heap.size)(UR:Bs<n₀)(hn₀:n₀<=w.heap.size)
  (hc:w.cell? ⟨Bs,0,none⟩=some sv) (hI:Vers n₀ w sv zs):
  SeqStopsK F n Tryz.prog 294 #[.pointer (some ⟨Bs,0,none⟩)] (λx:Nat × VT=> #[Value.int .i64 (x.1:Int), .agg #[.int .i64 x.2.1, .string x.2.2.1, .bool x.2.2.2]]) (Below n₀) (λys=>ys=F3 (Ly zs) zs.length)
   (λpre=> ∃k,k<=zs.length/\pre=F3 (Ly zs) k) zs.length w:=λl J Jx W hW _ _ hY h0=>by
 have U6:=(hW.cell (p:=⟨Bs,0,none⟩) Jr).trans hc;rcases hI.below (hW.mono hn₀)with⟨a,c,rfl,rfl⟩|⟨b,off,cap,rfl,hb,BE⟩
 ·exact(zCK F n h7 Ez l Bs a c J W U6 h0).mono λe W' ⟨he,hj⟩=>⟨he, .inl ⟨_,rfl,hj⟩⟩
 ·exact zMm F n h7 Ez hn l Bs n₀ b off cap zs E8 hb J Jx hY W U6 UR BE h0
def Hf(time:Int):List VT->ByteArray × Bool
 | []=>(ByteArray.empty,false)
 |x::l=>if x.1<=time then(x.2.1, !x.2.2)else Hf time l
def On(zs:List VT):List VT:=(F3 (Ly zs) zs.length).map (·.2)
theorem qN{time:Int}:∀{ini rest:List VT},(∀p∈ini,¬p.1<=time)->Hf time (ini++rest)=Hf time rest
 | [],_,_=>rfl
 |x::l,rest,h=>by rw[List.cons_append,Hf,if_neg (h x (by simp)),qN λp hp=>h p (by simp[hp])]
theorem zGB{α:Type}(f:Nat->α){k n:Nat}(h:k<=n):F3 f n=F3 f k++(F3 f n).drop k:=by
 have:F3 f k=(F3 f n).take k:=by simp[F3,<-List.map_take,List.take_range,Nat.min_eq_left h]
 rw[this,B6]
def Z1(time:Int)(pre:List (Nat × VT)):Prop:= ∀p∈pre,¬p.2.1<=time
theorem zLO{time:Int}{l:List (Nat × VT)}(h:Z1 time l):Hf time (l.map (·.2))=(ByteArray.empty,false):=by
 have:=qN (time:=time) (ini:=l.map (·.2)) (rest:=[]) λp hp=>by obtain⟨q,hq,rfl⟩:=List.mem_map.1 hp;exact h q hq
 rw[AG]at this;exact this
theorem zMd{time:Int}{zs:List VT}{k:Nat}(hk:k<=zs.length){ini:List (Nat × VT)}{last:Nat × VT}(h1:F3 (Ly zs) k=ini++ [last])(h2:Z1 time ini)(h3:last.2.1<=time):Hf time (On zs)=(last.2.2.1, !last.2.2.2):=by
 unfold On;rw[zGB _ hk,h1,List.append_assoc,List.map_append,qN (λp hp=>by obtain⟨q,hq,rfl⟩:=List.mem_map.1 hp;exact h2 q hq)]
 show Hf time (last.2::_)=_;rw[Hf,if_pos h3]
def zQX(time:Int)(s e1 e2:Nat)(pre:List (Nat × VT))(W:World):Prop:= ∃ini last,pre=ini++ [last]/\Z1 time ini/\last.2.1<=time/\Boxed W (s+1+1) e1 (.string last.2.2.1)/\Boxed W (s+1+1+1) e2 (.bool !last.2.2.2)
set_option maxRecDepth 100000 in
set_option maxHeartbeats 4000000 in
theorem zQY(F:Fence)(n:Nat)(h4:F.fn 152)(h6:F.fn 238)(h8:F.fn 294)(Ez:F.round=none)(hn:3<=n)(ks:ByteArray)(a:Option Addr)(cap:Nat)(time:Int)(zs:List VT)(E8:zs.length*1000<=140737488351232)(w:World)(hI:Vers w.heap.size w (.slice a zs.length cap) zs):
  CallsIn F n Tryz.prog 152 #[.agg #[.string ks, .slice a zs.length cap], .int .i64 time] w λe W'=>e= .returned (.tuple #[.string (Hf time (On zs)).1, .bool (Hf time (On zs)).2])/\Below w.heap.size w W':=by
 have h1:1<=n:=by omega
 refine callsIn_of_wp_marks Tryz.func152 rfl h4 ?_ Ez;simp only[Tryz.ntmps152,List.size_toArray,AH,List.length_nil,Nat.reduceAdd,Nat.reduceSub,Array.replicate_succ,Array.replicate_zero,List.push_toArray,List.append_toArray,List.nil_append,List.cons_append];obtain⟨len,hlen⟩:∃len,len=zs.length:=⟨_,rfl⟩
 rw[<-hlen]at hI ⊢;have HL:=Lib.hid hlen;clear hlen
 gi_wp2_with (gi_at_call 238;refine(zOi F (n-1) h6 Ez _ _ _ _).mono ?_;rintro e w' ⟨rfl,rfl⟩)
 have e1:Boxed ((w.alloc (.cells #[.string ks, .slice a len cap] 206)).alloc (.cells #[.int .i64 time] 3)) (w.heap.size+1) 3 (.int .i64 time):=by have:=Boxed.new (w.alloc (.cells #[.string ks, .slice a len cap] 206)) 3 (.int .i64 time);rwa[World.size_alloc]at this
 have bT:=((e1.alloc (.cells #[.string {data:= #[]}] 9)).alloc (.cells #[.bool false] 4)).alloc (.cells #[.slice a len cap] 204);have e2:=Boxed.new ((w.alloc (.cells #[.string ks, .slice a len cap] 206)).alloc (.cells #[.int .i64 time] 3)) 9 (.string {data:= #[]});have bS:=(e2.alloc (.cells #[.bool false] 4)).alloc (.cells #[.slice a len cap] 204);have e3:=Boxed.new (((w.alloc (.cells #[.string ks, .slice a len cap] 206)).alloc (.cells #[.int .i64 time] 3)).alloc (.cells #[.string {data:= #[]}] 9)) 4 (.bool false);have bG:=e3.alloc (.cells #[.slice a len cap] 204);have bN:=Boxed.new ((((w.alloc (.cells #[.string ks, .slice a len cap] 206)).alloc (.cells #[.int .i64 time] 3)).alloc (.cells #[.string {data:= #[]}] 9)).alloc (.cells #[.bool false] 4)) 204 (.slice a len cap);simp only[World.size_alloc]at bT bS bG bN;have lN:Below w.heap.size w (((((w.alloc (.cells #[.string ks, .slice a len cap] 206)).alloc (.cells #[.int .i64 time] 3)).alloc (.cells #[.string {data:= #[]}] 9)).alloc (.cells #[.bool false] 4)).alloc (.cells #[.slice a len cap] 204)):=
  (((((Below.refl _ w).alloc (AB _) _).alloc (by simp) _).alloc (by simp;omega) _).alloc (by simp;omega) _).alloc (by simp;omega) _
 have BJ:(((((w.alloc (.cells #[.string ks, .slice a len cap] 206)).alloc (.cells #[.int .i64 time] 3)).alloc (.cells #[.string {data:= #[]}] 9)).alloc (.cells #[.bool false] 4)).alloc (.cells #[.slice a len cap] 204)).heap.size=w.heap.size+5:=by simp
 clear e1 e2 e3;obtain⟨W0,hW0⟩:∃W0,(((((w.alloc (.cells #[.string ks, .slice a len cap] 206)).alloc (.cells #[.int .i64 time] 3)).alloc (.cells #[.string {data:= #[]}] 9)).alloc (.cells #[.bool false] 4)).alloc (.cells #[.slice a len cap] 204))=W0:=⟨_,rfl⟩
 rw[hW0]at bT bS bG bN lN BJ ⊢;clear hW0;have hV:Vers (w.heap.size+5) W0 (.slice a len cap) zs:=(hI.below lN).mono (by omega);have bk:∀{A B:World} {row:Option Nat} {b t:Nat} {v:Value},Boxed A b t v->A.grownBy B row->(∀r,row=some r-> ∃o,A.heap[r]?=some o/\o.isCells=false)->Boxed B b t v:=λ{A B row b t v} h hg hr=>boxed_own b t (λ(_:Unit)=>v) () A B row h hg hr;refine wpIn_rangeFunc_ownH Ez h1 (gf:=294) (lb:= #[.pointer (some ⟨w.heap.size+1+1+1+1,0,none⟩)]) rfl h8 (enters_of Tryz.func294 (by kernel_rfl) rfl)
  (zGj F (n-1) h8 Ez (by omega) (w.heap.size+1+1+1+1) (w.heap.size+5) _ zs E8 W0 (by omega) (by omega) (by omega) bN.cell hV) belowK_t (belowK_b (by omega)) (Below.refl _ _) (λ_=>rfl)
  (λpre W=>(Z1 time pre/\Boxed W (w.heap.size+1) 3 (.int .i64 time)/\Boxed W (w.heap.size+1+1) 9 (.string {data:= #[]})/\Boxed W (w.heap.size+1+1+1) 4 (.bool false)/\Boxed W (w.heap.size+1+1+1+1) 204 (.slice a len cap))/\Below w.heap.size w W)
  (λc pre W=>(c= .ret/\zQX time w.heap.size 9 4 pre W)/\Below w.heap.size w W)
  (OwnFrom.and (Own.from (λs A B row hs hg hr=>⟨hs.1,bk hs.2.1 hg hr,bk hs.2.2.1 hg hr,bk hs.2.2.2.1 hg hr,bk hs.2.2.2.2 hg hr⟩) _) (ownFrom_below (AB _) (by omega)))
  (λc=>OwnFrom.and (Own.from (λs A B row hs hg hr=>by obtain⟨hc,ini,last,q1,q2,q3,q4,q5⟩:=hs;exact⟨hc,ini,last,q1,q2,q3,bk q4 hg hr,bk q5 hg hr⟩) _) (ownFrom_below (AB _) (by omega)))
  ⟨⟨λp hp=>by simp at hp,bT,bS,bG,bN⟩,lN⟩
  (λx a' W=> ∃Bx,w.heap.size+5<=Bx/\W.heap[Bx]?=some (.cells #[.int .i64 x.2.1, .string x.2.2.1, .bool x.2.2.2] 208 (0,0))/\a'={tmps:= #[.agg #[.string ks, .slice a len cap], .int .i64 time, .pointer (some ⟨w.heap.size,0,none⟩), .pointer (some ⟨w.heap.size+1,0,none⟩), .pointer (some ⟨w.heap.size+1+1,0,none⟩), .pointer (some ⟨w.heap.size+1+1+1,0,none⟩),undef, .pointer (some ⟨Bx,0,none⟩), .pointer (some ⟨w.heap.size,1,none⟩), .slice a len cap, .func (.func 294) #[] #[.pointer (some ⟨w.heap.size+1+1+1+1,0,none⟩)], .int .i64 (x.1:Int), .agg #[.int .i64 x.2.1, .string x.2.2.1, .bool x.2.2.2],undef,undef,undef,undef,undef,undef,undef,undef,undef],defers:=[]})
  (λx a' _ X Y row hs hg hr=>by obtain⟨Bx,q1,q2,q3⟩:=hs;refine⟨Bx,q1,(hg.block Bx (Di q2) λe=> ?_).trans q2,q3⟩;obtain⟨o,ho,VI⟩:=(hr _ e.symm).2;rw[q2]at ho;cases ho;cases VI)
  ?assign ?body ?done ?stop
 case assign=>
  rintro l pre ⟨xj,xt,xs,xg⟩ W K ⟨⟨hp,bT1,bS1,bG1,bN1⟩,NL⟩ hK;have Y2:=World.alloc_heap_new W (.cells #[.int .i64 0, .string {data:= #[]}, .bool false] 208)
  gi_wp2
  exact hK _ _ ((KeepsOthers.alloc _ _).from _) ((Below.refl _ W).alloc (by have:=bN1.lt;omega) _) ⟨⟨hp,bT1.alloc _,bS1.alloc _,bG1.alloc _,bN1.alloc _⟩,NL.alloc NL.size _⟩ ⟨W.heap.size,by have:=bN1.lt;omega,World.alloc_heap_new W _,rfl⟩
 case body=>
  rintro l pre ⟨xj,xt,xs,xg⟩ a' W hl ⟨r,hr⟩ ⟨⟨hp,bT1,bS1,bG1,bN1⟩,NL⟩ ⟨Bx,hBx,hV1,rfl⟩ AP;have cT:=bT1.cell;have cS:=bS1.cell;have fS:=bS1.frozen;have cG:=bG1.cell;have fG:=bG1.frozen;have cV:=Yr hV1;have Zc:Tryz.prog.follows .mixedOrders=true:=by kernel_rfl
  gi_wp2
  ·have hx:xt<=time:=by assumption
   gi_region_o
   all_goals gi_wp2
   all_goals first
    |exact⟨(((KeepsOthers.setCell _ _ _).trans (KeepsOthers.setCell _ _ _)).trans (KeepsOthers.drew _)).from _,⟨rfl,pre,(xj,xt,xs,xg),rfl,hp,hx,(bS1.set _).other (by omega) _,(bG1.other (by omega) _).set _⟩,((NL.setCell (p:=⟨w.heap.size+1+1,0,none⟩) (by simp;omega) _).setCell (p:=⟨w.heap.size+1+1+1,0,none⟩) (by simp;omega) _).drew⟩
    |exact⟨(((KeepsOthers.setCell _ _ _).trans (KeepsOthers.setCell _ _ _)).trans (KeepsOthers.drew _)).from _,⟨rfl,pre,(xj,xt,xs,xg),rfl,hp,hx,(bS1.other (by omega) _).set _,(bG1.set _).other (by omega) _⟩,((NL.setCell (p:=⟨w.heap.size+1+1+1,0,none⟩) (by simp;omega) _).setCell (p:=⟨w.heap.size+1+1,0,none⟩) (by simp;omega) _).drew⟩
  ·have hx: ¬xt<=time:=by first|assumption|omega
   refine⟨KeepsFrom.refl _ _,Below.refl _ _,⟨λp hp'=> ?_,bT1,bS1,bG1,bN1⟩,NL⟩;rcases Ae.1 hp' with h|h
   ·exact hp p h
   ·simp only[List.mem_singleton]at h;subst h;exact hx
 case done=>
  rintro D ys W hD rfl ⟨⟨BU,bT1,bS1,bG1,bN1⟩,NL⟩ hK;have cS:=bS1.cell;have fS:=bS1.frozen;have cG:=bG1.cell;have fG:=bG1.frozen
  gi_wp2
  have Rj:=((KeepsOthers.setCell W ⟨w.heap.size+1+1,0,none⟩ (.string {data:= #[]})).trans (KeepsOthers.setCell _ ⟨w.heap.size+1+1+1,0,none⟩ (.bool false))).same D _ hK rfl;have b1:=(bS1.set (.string {data:= #[]})).other (show w.heap.size+1+1≠w.heap.size+1+1+1 by omega) (.bool false);have b2:=(bG1.other (show w.heap.size+1+1+1≠w.heap.size+1+1 by omega) (.string {data:= #[]})).set (.bool false);refine⟨by simp, .inl ⟨_,_,rfl,run_takeDeferred Rj,?_⟩⟩;have c1:=cell_kept b1.cell (grownBy_putObj' _ D (.deferred none)) (λr e=>by cases e;exact⟨_,Rj,rfl⟩);have c2:=cell_kept b2.cell (grownBy_putObj' _ D (.deferred none)) (λr e=>by cases e;exact⟨_,Rj,rfl⟩);refine⟨.tuple #[.string {data:= #[]}, .bool false],?_,by rw[show On zs=(F3 (Ly zs) zs.length).map (·.2)from rfl,zLO BU];rfl,((NL.setCell (p:=⟨w.heap.size+1+1,0,none⟩) (by simp;omega) _).setCell (p:=⟨w.heap.size+1+1+1,0,none⟩) (by simp;omega) _).trans (belowK_b (w:=w) (AB _) _ D _ _ (by omega) Rj rfl rfl)⟩;simp[results,Tryz.f152,go_sem,c1,c2]
 case stop=>
  rintro D c pre W hD ⟨k,hk,rfl⟩ ⟨⟨rfl,ini,last,q1,q2,q3,q4,q5⟩,hB⟩ hK
  gi_wp2
  refine⟨by simp, .inl ⟨_,_,rfl,run_takeDeferred hK,?_⟩⟩;have c1:=cell_kept q4.cell (grownBy_putObj' _ D (.deferred none)) (λr e=>by cases e;exact⟨_,hK,rfl⟩);have c2:=cell_kept q5.cell (grownBy_putObj' _ D (.deferred none)) (λr e=>by cases e;exact⟨_,hK,rfl⟩);refine⟨.tuple #[.string last.2.2.1, .bool !last.2.2.2],?_,by rw[zMd hk q1 q2 q3],hB.trans (belowK_b (w:=w) (AB _) W D _ _ (by omega) hK rfl rfl)⟩;simp[results,Tryz.f152,go_sem,c1,c2]
end
section
open Go.RowKit
set_option maxRecDepth 100000
theorem zJR:∃i z,Tryz.prog.info? 206=some i/\i.size=2/\i.zero=some z/\z.cells.size=2/\i.bytes<=1000:=by
 have h:(match Tryz.prog.info? 206 with|some i=>(match i.zero with|some z=>i.size==2&&z.cells.size==2&&decide (i.bytes<=1000)|none=>false)|none=>false)=true:=by kernel_rfl
 split at h
 ·rename_i i hi;split at h
  ·rename_i z hz;simp only[Ac,Ay,AR]at h;exact⟨i,z,hi,h.1.1,hz,h.1.2,h.2⟩
  ·cases h
 ·cases h
set_option maxHeartbeats 4000000 in
theorem zHu(w:World)(a:Option Addr)(n c:Nat)(cs:List Value)(hs:Src w 2 a n cs)(hb:n*1000<=140737488355328):
  Calls Tryz.prog 393 #[.slice a n c] w λe w'=> ∃a' c',e= .returned (.slice a' n c')/\Mod [] w w'/\(n=0/\c'=0\/ ∃g C,a'=some ⟨g,0,none⟩/\w.heap.size<=g/\Dq w' 206 2 g c' C n cs):=by
 obtain⟨i0,z0,hi,BJ,hz,DA,FD⟩:=zJR;have q22:∀(w:World) (a:Option Addr) (n c n' c':Nat),(binOp .eql 125 (.slice a n c) (.slice none n' c')).run Tryz.prog w= .ok (.bool a.isNone) w:=λw a n c n' c'=>Lib.run_eql_slice_nil w _ _ a n c n' c' Tryz.underlying125;cases a with
 |none=>
  obtain⟨_,rfl,rfl⟩:(none:Option Addr)=none/\n=0/\cs=[]:=by
   rcases hs with h|⟨ad,h,_⟩
   ·exact h
   ·cases h
  clear hs hb
  go_enter Tryz.func393,Tryz.ntmps393
  go_wp2
  go_ret
  exact⟨none,0,rfl,Mod.refl _ _,by simp⟩
 |some ad=>
  have CF:Mod [] w (w.alloc (.cells #[] 206)):=(Mod.refl [] w).alloc _;have A9:Src (w.alloc (.cells #[] 206)) i0.size (some ad) n cs:=by rw[BJ];exact hs.mod CF
  obtain⟨v',w1,hr,A1⟩:=Un (P:=Tryz.prog) (w.alloc (.cells #[] 206)) 125 125 206 i0 z0 Tryz.underlying125 hi hz (by rw[DA,BJ]) (by omega) (λ_=>False) (.slice (some ⟨w.heap.size,0,none⟩) 0 0) 0 [] (by simp) (.inl ⟨rfl,_,rfl⟩) (some ad) n c cs A9 (by simp only[maxLen];omega) (by have:=Nat.mul_le_mul_left n FD;rw[Nat.zero_add];omega)
  have fin:∃a' c',v'= .slice a' n c'/\Mod [] w w1/\(n=0/\c'=0\/ ∃g C,a'=some ⟨g,0,none⟩/\w.heap.size<=g/\Dq w1 206 2 g c' C n cs):=by
   rcases A1 with⟨rfl,rfl,rfl⟩|⟨g,cap,C,rfl,h1,h2,h3,h4,h5,h6,h7⟩
   ·exact⟨_,_,rfl,CF, .inl ⟨rfl,rfl⟩⟩
   ·have mY:(w.alloc (.cells #[] 206)).heap.size<=g:=by
     rcases h7 with⟨h,_⟩|h
     ·omega
     ·exact h.elim
    have KN:w.heap.size<=g:=by simp at mY;omega
    refine⟨_,_,by rw[Nat.zero_add],⟨h6.os.trans CF.os,h6.tape.trans CF.tape,h6.output.trans CF.output,Nat.le_trans CF.size h6.size,λb hb hn=> ?_⟩, .inr ⟨g,C,rfl,KN,by omega,h2,h3,by rw[h4,BJ],?_⟩⟩
    ·rw[h6.block b (by simp;omega) (λe=>by cases e;omega)];exact CF.block b hb hn
    ·rw[Nat.zero_add,List.nil_append,BJ]at h5;exact h5.symm
  clear A1 hs A9 CF
  go_enter Tryz.func393,Tryz.ntmps393
  go_wp2_with (at_builtin;refine Lib.wpList_append_run _ rfl _ _ _ _ rfl _ _ rfl rfl _ _ hr ?_)
  go_ret
  obtain⟨a',c',rfl,h1,h2⟩:=fin
  exact⟨a',c',rfl,h1,h2⟩
theorem zK6:∃i z,Tryz.prog.info? 208=some i/\i.size=3/\i.zero=some z/\z.cells.size=3/\i.bytes<=1000:=by
 have h:(match Tryz.prog.info? 208 with|some i=>(match i.zero with|some z=>i.size==3&&z.cells.size==3&&decide (i.bytes<=1000)|none=>false)|none=>false)=true:=by kernel_rfl
 split at h
 ·rename_i i hi;split at h
  ·rename_i z hz;simp only[Ac,Ay,AR]at h;exact⟨i,z,hi,h.1.1,hz,h.1.2,h.2⟩
  ·cases h
 ·cases h
set_option maxHeartbeats 4000000 in
theorem zIH(w:World)(a:Option Addr)(n c:Nat)(cs:List Value)(hs:Src w 3 a n cs)(hb:n*1000<=140737488355328):
  Calls Tryz.prog 394 #[.slice a n c] w λe w'=> ∃a' c',e= .returned (.slice a' n c')/\Mod [] w w'/\(n=0/\c'=0\/ ∃g C,a'=some ⟨g,0,none⟩/\w.heap.size<=g/\Dq w' 208 3 g c' C n cs):=by
 obtain⟨i0,z0,hi,BJ,hz,DA,FD⟩:=zK6;have q22:∀(w:World) (a:Option Addr) (n c n' c':Nat),(binOp .eql 204 (.slice a n c) (.slice none n' c')).run Tryz.prog w= .ok (.bool a.isNone) w:=λw a n c n' c'=>Lib.run_eql_slice_nil w _ _ a n c n' c' Tryz.underlying204;cases a with
 |none=>
  obtain⟨_,rfl,rfl⟩:(none:Option Addr)=none/\n=0/\cs=[]:=by
   rcases hs with h|⟨ad,h,_⟩
   ·exact h
   ·cases h
  clear hs hb
  go_enter Tryz.func394,Tryz.ntmps394
  go_wp2
  go_ret
  exact⟨none,0,rfl,Mod.refl _ _,by simp⟩
 |some ad=>
  have CF:Mod [] w (w.alloc (.cells #[] 208)):=(Mod.refl [] w).alloc _;have A9:Src (w.alloc (.cells #[] 208)) i0.size (some ad) n cs:=by rw[BJ];exact hs.mod CF
  obtain⟨v',w1,hr,A1⟩:=Un (P:=Tryz.prog) (w.alloc (.cells #[] 208)) 204 204 208 i0 z0 Tryz.underlying204 hi hz (by rw[DA,BJ]) (by omega) (λ_=>False) (.slice (some ⟨w.heap.size,0,none⟩) 0 0) 0 [] (by simp) (.inl ⟨rfl,_,rfl⟩) (some ad) n c cs A9 (by simp only[maxLen];omega) (by have:=Nat.mul_le_mul_left n FD;rw[Nat.zero_add];omega)
  have fin:∃a' c',v'= .slice a' n c'/\Mod [] w w1/\(n=0/\c'=0\/ ∃g C,a'=some ⟨g,0,none⟩/\w.heap.size<=g/\Dq w1 208 3 g c' C n cs):=by
   rcases A1 with⟨rfl,rfl,rfl⟩|⟨g,cap,C,rfl,h1,h2,h3,h4,h5,h6,h7⟩
   ·exact⟨_,_,rfl,CF, .inl ⟨rfl,rfl⟩⟩
   ·have mY:(w.alloc (.cells #[] 208)).heap.size<=g:=by
     rcases h7 with⟨h,_⟩|h
     ·omega
     ·exact h.elim
    have KN:w.heap.size<=g:=by simp at mY;omega
    refine⟨_,_,by rw[Nat.zero_add],⟨h6.os.trans CF.os,h6.tape.trans CF.tape,h6.output.trans CF.output,Nat.le_trans CF.size h6.size,λb hb hn=> ?_⟩, .inr ⟨g,C,rfl,KN,by omega,h2,h3,by rw[h4,BJ],?_⟩⟩
    ·rw[h6.block b (by simp;omega) (λe=>by cases e;omega)];exact CF.block b hb hn
    ·rw[Nat.zero_add,List.nil_append,BJ]at h5;exact h5.symm
  clear A1 hs A9 CF
  go_enter Tryz.func394,Tryz.ntmps394
  go_wp2_with (at_builtin;refine Lib.wpList_append_run _ rfl _ _ _ _ rfl _ _ rfl rfl _ _ hr ?_)
  go_ret
  obtain⟨a',c',rfl,h1,h2⟩:=fin
  exact⟨a',c',rfl,h1,h2⟩
abbrev aD:List DT:=[.flat, .flat, .flat]
abbrev Z2:List DT:=[.flat, .row 208 3 (AM.of aD)]
theorem zHb{l:List Ap}{k:Nat}(hk:k<l.length):(Az (l.map Ej)).drop (k*2)= .str l[k].ab:: .sl (l[k].au.map IK)::(Az (l.map Ej)).drop ((k+1)*2):=by
 have hx:∀y∈l.map Ej,y.cells.length=2:=λy hy=>by obtain⟨c,_,rfl⟩:=List.mem_map.1 hy;rfl
 have e1:=(QR hx (i:=k) (by simp;omega)).2;have e2:=(QR hx (i:=k+1) (by simp;omega)).2;rw[<-e1,<-e2,By (show k<(l.map Ej).length by simpa using hk)];simp[Az,Ej,AV.cells]
theorem zLy{w:World}{u:Value}{ys:List AV}{g:List Nat}(h:Rd w [u] [.sl ys] g):∃a c,u= .slice a ys.length c:=by
 cases h with
 |gk h=>exact⟨_,_,rfl⟩
 |scons q1 q2 q3 q4 q5 q6 q7 q8 q9 q10=>exact⟨_,_,by rw[q4]⟩
theorem zNM{w:World}{l:List Ap}{cs:List Value}{f:List Nat}(h:Rd w cs (Az (l.map Ej)) f){k:Nat}(hk:k<l.length):
  ∃(s:ByteArray) (a:Option Addr) (c:Nat) (f1:List Nat),cs[k*2]?=some (.string s)/\s.data.toList=l[k].ab/\s.size<=9223372036854775807/\cs[k*2+1]?=some (.slice a l[k].au.length c)/\Rd w [.slice a l[k].au.length c] [.sl (l[k].au.map IK)] f1/\(∀b∈f1,b∈f):=by
 obtain⟨g,hg,hp⟩:=h.piece (k*2) 2;rw[zHb hk]at hp;simp only[List.take_succ_cons,List.take_zero]at hp;obtain⟨s,us,e1,e2,e3,hp⟩:=Lp hp;have hl:=hp.len
 match us,hl with
 | [u],_=>
  have e4:cs[k*2]?=some (.string s):=by have:=congrArg (λL=>L[0]?) e1;simpa[List.getElem?_take,List.getElem?_drop]using this
  have e5:cs[k*2+1]?=some u:=by have:=congrArg (λL=>L[1]?) e1;simpa[List.getElem?_take,List.getElem?_drop]using this
  obtain⟨a,c,rfl⟩:=zLy hp;rw[List.length_map]at e5 hp;exact⟨s,a,c,g,e4,e2,e3,e5,hp,hg⟩
theorem rV{w:World}{v:Value}{ys:List AV}{f:List Nat}{K:Nat}(h:Rd w [v] [.sl ys] f)(hK:∀y∈ys,y.cells.length=K)(hb:ys.length<=9223372036854775807):
  ∃a c cs f1,v= .slice a ys.length c/\Src w K a ys.length cs/\Rd w cs (Az ys) f1/\ ∀b∈f1,b∈f:=by
 cases h with
 |gk h=>
  rename_i a c;refine⟨a,c,[],[],rfl,?_,by simpa[Az]using Rd.nil,by simp⟩;cases a with
  |none=>exact .inl ⟨rfl,rfl,rfl⟩
  |some ad=>exact .inr ⟨ad,rfl,by simp,by simp,by simp⟩
 | @scons b o n c ys cs C ty fz sz f1 vs xs f2 q1 q2 q3 q4 q5 q6 q7 q8 q9 q10=>
  subst q4;have BJ:sz=K:=by
   cases ys with
   |nil=>simp at q2
   |cons y ys=>rw[<-q5 y (by simp),hK y (by simp)]
  subst BJ;refine⟨some ⟨b,o,none⟩,c,cs,f1,rfl, .inr ⟨⟨b,o,none⟩,rfl,?_,λj u hj=> ?_,q8⟩,q9,λx hx=>by simp[hx]⟩
  ·rw[q9.len,Lf _ hK]
  ·rw[Addr.add_lit,EO q1];exact q7 j u hj
theorem zCD{L:List Value}{k:Nat}{s v:Value}(hs:L[k*2]?=some s)(hl:k*2+1<L.length):(L.set (k*2+1) v).take ((k+1)*2)=L.take (k*2)++ [s,v]:=by rw[show(k+1)*2=k*2+1+1 by omega,List.take_add_one,List.take_add_one,List.take_set_of_le (by omega)];rw[List.getElem?_set_ne (by omega),hs,List.getElem?_set_self hl];simp
theorem zH1{L M:List Value}{k n:Nat}{v:Value}(h:(L.take (n*2)).drop (k*2)=M.drop (k*2)):((L.set (k*2+1) v).take (n*2)).drop ((k+1)*2)=M.drop ((k+1)*2):=by
 have e:((L.set (k*2+1) v).take (n*2)).drop ((k+1)*2)=(L.take (n*2)).drop ((k+1)*2):=by rw[List.take_set,List.drop_set_of_lt (by omega)]
 rw[e,show(k+1)*2=k*2+2 by omega,<-List.drop_drop,h,List.drop_drop]
def Ur(w1:World)(g cap n:Nat)(cs:List Value)(ys:List AV)(k:Nat)(wr:World):Prop:=
 ∃C N,wr.heap[g]?=some (.cells C 206 (0,0))/\C.size=cap*2/\(C.toList.take (n*2)).drop (k*2)=cs.drop (k*2)/\DC wr (B9 k Z2) (C.toList.take (k*2)) (Az (ys.take k)) N/\(∀u∈C.toList.take (k*2),u.oneCell'=true)/\
  N.Nodup/\(∀b∈N,w1.heap.size<=b/\b<wr.heap.size)/\Mod [g] w1 wr
theorem Ur.next{w w1 wr w2:World}{g cap k:Nat}{cs cs':List Value}{l:List Ap}(hn:l.length<=cap)(DL:Mod [] w w1)(KN:w.heap.size<=g)(hg1:g<w1.heap.size)(hI:Ur w1 g cap l.length cs (l.map Ej) k wr)(hk:k<l.length)
  {s:ByteArray} {a':Option Addr} {c':Nat} (e1:cs[k*2]?=some (.string s)) (e2:s.data.toList=l[k].ab) (e3:s.size<=9223372036854775807) (Kb:Rd w cs' (Az (l[k].au.map IK)) []) (IQ:∀u∈cs',u.oneCell'=true)
  (C7:Mod [] wr w2) (A1:l[k].au.length=0/\c'=0\/ ∃g2 C2,a'=some ⟨g2,0,none⟩/\wr.heap.size<=g2/\Dq w2 208 3 g2 c' C2 l[k].au.length cs'):
  Ur w1 g cap l.length cs (l.map Ej) (k+1) (w2.setCell ⟨g,k*2+1,none⟩ (.slice a' l[k].au.length c')):=by
 obtain⟨C,N,i1,i2,i3,i4,i5,i6,i7,i8⟩:=hI;have PD:g<wr.heap.size:=Di i1;have j1:w2.heap[g]?=some (.cells C 206 (0,0)):=by rw[C7.block g PD (by simp)];exact i1
 have j2:=heap_setCell_same w2 g (k*2+1) C 206 (.slice a' l[k].au.length c') j1;have Ew:C.toList.length=cap*2:=by simpa using i2
 have VP:C.toList[k*2]?=some (.string s):=by have:=congrArg (λL=>L[0]?) i3;simp only[List.getElem?_drop,List.getElem?_take,Nat.add_zero]at this;rw[if_pos (by omega)]at this;rw[this];exact e1
 have hT:∃T,DC w2 [.row 208 3 (AM.of aD)] [.slice a' l[k].au.length c'] [.sl (l[k].au.map IK)] T/\T.Nodup/\ ∀b∈T,wr.heap.size<=b/\b<w2.heap.size:=by
  rcases A1 with⟨h0,rfl⟩|⟨g2,C2,rfl,hg2,r1,r2,r3,r4,r5⟩
  ·have:l[k].au=[]:=List.eq_nil_of_length_eq_zero h0;rw[this];exact⟨[], .void (by omega) (by rw[AM.ax];rfl) .nil,by simp,by simp⟩
  ·have AD:(C2.toList.take (l[k].au.length*3)).length=l[k].au.length*3:=by
    have:C2.toList.length=c'*3:=by simpa using r4
    rw[AE,this];omega
   have hd:=DC.mr (w:=w2) (Kb.frame (by simp)) (ts:=B9 l[k].au.length aD) (jZ _ rfl) (by rw[O3,r5,AD];rfl);rw[r5]at hd;have:=DC.row (w:=w2) (e:=208) (z:=3) (l:=AM.of aD) (g:=g2) (cap:=c') (C:=C2) (ys:=l[k].au.map IK) (N1:=[]) (ts:=[]) (vs:=[]) (xs:=[]) (N:=[]) (by omega) (by rw[AM.ax];rfl) r3 (by simpa using r1) r2 r4 (λy hy=>by obtain⟨x,_,rfl⟩:=List.mem_map.1 hy;rfl) (by rw[List.length_map,<-r5];exact IQ) (by rw[List.length_map,AM.ax];exact hd) .nil
   refine⟨[g2],by simpa using this,by simp,λb hb=> ?_⟩;simp only[List.mem_singleton]at hb;subst hb;exact⟨hg2,Di r3⟩
 obtain⟨T,t1,t2,t3⟩:=hT;have hgT:g∉T:=λh=>by have:=(t3 g h).1;omega
 have hgN:g∉N:=λh=>by have:=(i7 g h).1;omega
 have Mv:∀b,b≠g->(w2.setCell ⟨g,k*2+1,none⟩ (.slice a' l[k].au.length c')).heap[b]?=w2.heap[b]?:=λb hb=>Below.heap_setCell _ _ _ _ (by simpa using hb);have BJ:(w2.setCell ⟨g,k*2+1,none⟩ (.slice a' l[k].au.length c')).heap.size=w2.heap.size:=by simp[World.setCell]
 refine⟨_,N++T,j2,by simpa using i2,?_,?_,?_,?_,?_,?_⟩
 ·rw[Array.toList_setIfInBounds];exact zH1 i3
 ·rw[Array.toList_setIfInBounds,zCD VP (by rw[Ew];omega),QW,zKG,List.take_add_one,show(l.map Ej)[k]?=some (Ej l[k]) by simp[hk]];have e5:Az ((l.map Ej).take k++(some (Ej l[k])).toList)=Az ((l.map Ej).take k)++ [.str l[k].ab, .sl (l[k].au.map IK)]:=by simp[Az,Ej,AV.cells]
  rw[e5];refine DC.app ((i4.frame (w':=w2) λb hb=>C7.block b (i7 b hb).2 (by simp)).frame λb hb=>Mv b λe=>hgN (e▸hb)) ?_;have Hl:Rd (w2.setCell ⟨g,k*2+1,none⟩ (.slice a' l[k].au.length c')) [.string s] [.str l[k].ab] []:=by rw[<-e2];exact .str e3 .nil
  exact .flat Hl (t1.frame λb hb=>Mv b λe=>hgT (e▸hb))
 ·rw[Array.toList_setIfInBounds,zCD VP (by rw[Ew];omega)];intro u hu;rcases Ae.1 hu with hu|hu
  ·exact i5 u hu
  ·simp only[Ag,List.not_mem_nil,or_false]at hu;rcases hu with rfl|rfl<;>rfl
 ·exact List.nodup_append.2 ⟨i6,t2,λx hx y hy e=>by have:=(i7 x hx).2;have:=(t3 y hy).1;omega⟩
 ·intro b hb;rw[BJ];have:=C7.size;have:=i8.size;rcases Ae.1 hb with hb|hb
  ·have:=i7 b hb;omega
  ·have:=t3 b hb;omega
 ·exact(i8.trans C7 (by simp)).setCell (by simp) _
set_option maxHeartbeats 4000000 in
theorem zGY(l:List Ap)(w:World)(v:Value)(f:List Nat)(hr:Rd w [v] [.sl (l.map Ej)] f)(hl:l.length*1000<=140737488355328)(hv:∀c∈l,c.au.length*1000<=140737488355328):
  Calls Tryz.prog 359 #[v] w λe w'=> ∃v' N,e= .returned v'/\DC w' [.row 206 2 (AM.of Z2)] [v'] [.sl (l.map Ej)] N/\N.Nodup/\(∀b∈N,w.heap.size<=b/\b<w'.heap.size)/\Mod [] w w':=by
 obtain⟨a,c,cs,f1,rfl,hs,Zj,_⟩:=rV (K:=2) hr (λy hy=>by obtain⟨x,_,rfl⟩:=List.mem_map.1 hy;rfl) (by simp;omega);rw[List.length_map]at hs ⊢;have AD:=zHu w a l.length c cs hs hl;have H1:=Lib.hid Zj;have H2:=Lib.hid hv;have H3:=Lib.hid hs;clear Zj hv hs hr
 go_enter Tryz.func359,Tryz.ntmps359
 go_wp2_with (go_at_call 393;refine AD.mono ?_;rintro e w1 ⟨a1,cap,rfl,DL,h1⟩)
 have HM:=Lib.hid DL;rcases h1 with⟨hz,rfl⟩|⟨g,C0,rfl,KN,A2⟩
 ·have NV:l=[]:=List.eq_nil_of_length_eq_zero hz;subst NV;clear DL AD
  go_loopw [9] (λs9 wr=>s9= .int .i64 0/\wr=w1) (λ_ _=>0)
  case atStart=>exact⟨rfl,rfl⟩
  case round=>
   obtain⟨rfl,rfl⟩:=hrel
   go_wp2
   go_ret
   exact⟨_,[],rfl, .void (by omega) (by rw[AM.ax];rfl) .nil,by simp,by simp,HM.out⟩
 ·have HI:Hid (Ur w1 g cap l.length cs (l.map Ej) 0 w1):=by
   obtain⟨r1,r2,r3,r4,r5⟩:=A2;exact⟨C0,[],r3,r4,by rw[Nat.zero_mul,List.drop_zero,List.drop_zero];exact r5.symm,by simpa[B9,Az]using DC.nil,by simp,by simp,by simp,Mod.refl _ _⟩
  have FE:l.length<=cap:=A2.1;have Gk:cap<=9223372036854775807:=A2.2.1;have hg1:g<w1.heap.size:=Di A2.2.2.1;clear A2 DL AD
  go_loopw [9] (λs9 wr=> ∃k:Nat,k<=l.length/\s9= .int .i64 k/\Hid (Ur w1 g cap l.length cs (l.map Ej) k wr)) (λs9 _=>l.length-(intOf s9).toNat)
  case atStart=>exact⟨0,by omega,rfl,HI⟩
  case round=>
   obtain⟨k,hk,rfl,HK⟩:=hrel;by_cases AP:k<l.length
   ·obtain⟨s,av,cv,fv,e1,e2,e3,e4,e5,_⟩:=zNM H1.out AP;obtain⟨b1,b2,cs',fv',b3,A9,Kb,_⟩:=rV (K:=3) e5 (λy hy=>by obtain⟨x,_,rfl⟩:=List.mem_map.1 hy;rfl) (by have:=H2.out _ (Au AP);simp;omega);rw[List.length_map]at b3;cases b3;have Ci:fv'=[]:=IG Kb λy hy=>by
     unfold Az at hy;obtain⟨x,hx,hy⟩:=List.mem_flatMap.1 hy;obtain⟨q,_,rfl⟩:=List.mem_map.1 hx;simp[IK,AV.cells]at hy;rcases hy with rfl|rfl|rfl<;>rfl
    subst Ci;rw[List.length_map]at A9;obtain⟨C,N,i1,i2,i3,i4,i5,i6,i7,i8⟩:=HK.out;have hmw:Mod [] w wr:=HM.out.trans i8 (by simp;omega);have Rm:=zIH wr av l[k].au.length cv cs' (A9.mod hmw) (H2.out _ (Au AP));have KG:C[k*2+1]?=some (.slice av l[k].au.length cv):=by have:=congrArg (λL=>L[1]?) i3;simp only[List.getElem?_drop,List.getElem?_take]at this;rw[if_pos (by omega)]at this;rw[<-Array.getElem?_toList,this];exact e4
    have Bw:wr.cell? ⟨g,k*2+1,none⟩=some (.slice av l[k].au.length cv):=by rw[Yr i1];exact KG
    have PD:g<wr.heap.size:=Di i1;have Ck:∀w2,Mod [] wr w2->w2.cell? ⟨g,k*2+1,none⟩=some (.slice av l[k].au.length cv)/\w2.frozen? ⟨g,k*2+1,none⟩=false:=λw2 C7=>by
     have j1:w2.heap[g]?=some (.cells C 206 (0,0)):=by rw[C7.block g PD (by simp)];exact i1
     exact⟨by rw[Yr j1];exact KG,gU j1⟩
    have IQ:∀u∈cs',u.oneCell'=true:=by
     rcases A9 with⟨_,_,rfl⟩|⟨_,_,_,_,h⟩
     ·simp
     ·exact h
    obtain⟨m,hm⟩:∃m,m=l[k].au.length:=⟨_,rfl⟩
    rw[<-hm]at Bw Ck Rm;have HE:=Lib.hid (And.intro hm (And.intro e1 (And.intro e2 (And.intro e3 (And.intro Kb IQ)))));have HA:=Lib.hid Ck;clear Ck hm e1 e2 e3 e4 e5 Kb IQ i1 i2 i3 i4 i5 i6 i7 i8 hmw A9 KG
    go_wp2_with (go_at_call 394;refine Rm.mono ?_;rintro e w2 ⟨a',c',rfl,C7,A1⟩;obtain⟨mH,hf2⟩:=HA.out w2 C7)
    go_roundw
    case rel=>
     obtain⟨hm,e1,e2,e3,Kb,IQ⟩:=HE.out;subst hm;exact⟨k+1,by omega,by go_num,Ur.next FE HM.out KN hg1 HK.out AP e1 e2 e3 Kb IQ C7 A1⟩
    case measure=>simp[intOf];omega
   ·obtain rfl:k=l.length:=by omega
    go_wp2
    go_ret
    obtain⟨C,N,i1,i2,i3,i4,i5,i6,i7,i8⟩:=HK.out;have hd:=DC.row (w:=wr) (e:=206) (z:=2) (l:=AM.of Z2) (g:=g) (cap:=cap) (C:=C) (ys:=l.map Ej) (N1:=N) (ts:=[]) (vs:=[]) (xs:=[]) (N:=[]) (by omega) (by rw[AM.ax];rfl) i1 (by simpa using FE) Gk i2 (λy hy=>by obtain⟨x,_,rfl⟩:=List.mem_map.1 hy;rfl) (by rw[List.length_map];exact i5) (by rw[List.length_map,AM.ax];have h4:=i4;rw[show List.take l.length (l.map Ej)=l.map Ej from List.take_of_length_le (by simp)]at h4;exact h4) .nil
    refine⟨_,g::N,rfl,by simpa using hd,List.nodup_cons.2 ⟨λh=>by have:=(i7 g h).1;omega,i6⟩,λb hb=> ?_,HM.out.trans i8 (by simp;omega)⟩;have:=HM.out.size;rcases Ag.1 hb with rfl|hb
    ·exact⟨KN,Di i1⟩
    ·have:=i7 b hb;omega
def zPR(P:Program)(sg:BY)(f t el K:Nat)(l:List DT):Bool:=
 match P.funcs[f]?,sg f with
 |some fn,some s=>(match s.c8,s.res,s.ft,s.lo with
  | [],[true],[],[]=>true
  | [.ro],[true],[],[]=>true
  |_,_,_,_=>false)&&fn.body.isSome&& !(fn.name== "runtime.NumGoroutine")&&fn.params.toList==[t]&&fn.resultTypes.toList==[t]&&fn.nfree==0&& !Aq P t&&Bc P t==[t]&&CH P t==some el&& !Ch P el&&Nt (DJ P t) el K l&&FL P t [true]&&fn.params.size==1
 |_,_=>false
noncomputable def Td(l:List Ap):Option (List Ap):=Ar (l.length*1000<=140737488355328/\ ∀c∈l,c.au.length*1000<=140737488355328) (some l)
theorem zu6(a0 r:List Ap)(h:Td a0=some r):Cj Tryz.prog BM 359 [.sl (a0.map Ej)] (.sl (r.map Ej)):=by
 obtain⟨⟨hb,hv⟩,h⟩:=F4 h;cases h;have hk:zPR Tryz.prog BM 359 125 206 2 Z2=true:=by kernel_rfl
 have Ci:∀r,HR Tryz.prog BM 359 r=true:=λ_=>by kernel_rfl
 unfold zPR at hk;split at hk
 ·rename_i fn s hf hs;simp only[Ac,Bk,Ay]at hk;obtain⟨⟨⟨⟨⟨⟨⟨⟨⟨⟨⟨⟨g1,g2⟩,g3⟩,g4⟩,g5⟩,g6⟩,g7⟩,g8⟩,g9⟩,g10⟩,g11⟩,g12⟩,g13⟩:=hk;have g11:=T0 g11;obtain⟨hm,hr,Cr,B7⟩:(∀m∈s.c8,m= .ro)/\s.res=[true]/\s.ft=[]/\s.lo=[]:=by
   split at g1
   ·rename_i a b c d;exact⟨by rw[a];simp,b,c,d⟩
   ·rename_i a b c d;exact⟨by rw[a];simp,b,c,d⟩
   ·cases g1
  unfold Cj;rw[if_pos (Ks _ s hs)];refine⟨s,hs,fn,hf,g2,g3,by have:=Ci (a0.map Ej);unfold HR at this;rw[hf,hs]at this;exact this,by simp[g6,g13],by simp[Cr],λw vs rf lf A9 Aj hd _ Cb D5=> ?_⟩;obtain⟨DX,rfl⟩:=Aj.rd B7 hm;have Vw:=DX.len
  match vs,Vw with
  | [v],_=>
   refine(zGY a0 w v rf DX hb hv).mono ?_;rintro e w' ⟨v',N,rfl,Bj,hN,Cs,Bg⟩;refine⟨_,rfl,⟨⟨_,[],[],N,[],[],rfl,?_,DY.j8 (by rw[g4,Cr];rfl) hm,by simpa using hN,?_,by simp⟩,Bg⟩⟩
   ·rw[g5];show DI Tryz.prog w' _ s.res _ _ [] _;unfold DI;rw[hr,if_pos g12];refine⟨[v'],[.sl (a0.map Ej)],by rw[g7];simp,?_⟩;rw[g8];have:=CA.deep (P:=Tryz.prog) (t:=125) (ts:=[]) (fl:=[true]) (us:=[]) (ys:=[]) (rf:=[]) (hs:=[]) rfl g9 g10 g11 Bj .nil;simpa using this
   ·intro b hb;rw[AG]at hb;exact⟨.inr (Cs b hb).1,(Cs b hb).2⟩
 ·cases hk
def Ry(z:VT):CD:=⟨z.1,z.2.1.data.toList,z.2.2⟩
def Q8(zs:List VT):List Value:=zs.flatMap λz=> [.int .i64 z.1, .string z.2.1, .bool z.2.2]
theorem zOz{w:World}{b:Bool}{vs:List Value}{xs:List AV}{f:List Nat}(h:Rd w vs (.bool b::xs) f):∃us:List Value,vs= .bool b::us/\Rd w us xs f:=by
 cases h with
 |bool h=>exact⟨_,rfl,h⟩
theorem zHH{w:World}:∀{vers:List CD} {cs:List Value} {f:List Nat},Rd w cs (Az (vers.map IK)) f-> ∃zs:List VT,cs=Q8 zs/\vers=zs.map Ry/\ ∀z∈zs,z.2.1.size<=9223372036854775807
 | [],cs,f,h=>by have:Az (([]:List CD).map IK)=[]:=rfl;rw[this]at h;obtain⟨rfl,_⟩:=Kn h;exact⟨[],rfl,rfl,by simp⟩
 |x::xs,cs,f,h=>by
  have e:Az ((x::xs).map IK)= .int .i64 x.ak:: .str x.aw:: .bool x.bm::Az (xs.map IK):=by simp[Az,IK,AV.cells]
  rw[e]at h;obtain⟨us,rfl,hk,h1⟩:=Pd h;obtain⟨s,us,rfl,hs,hn,h2⟩:=Lp h1;obtain⟨us,rfl,h3⟩:=zOz h2;obtain⟨zs,rfl,hz,pB⟩:=zHH h3;refine⟨(x.ak,s,x.bm)::zs,rfl,by rw[List.map_cons,<-hz];congr 1;unfold Ry;rw[hs],λz Kg=> ?_⟩;rcases Ag.1 Kg with rfl|Kg
  ·exact hn
  ·exact pB z Kg
theorem zN8{w:World}{a:Option Addr}{n c:Nat}{ys:List AV}{f:List Nat}(h:Rd w [.slice a n c] [.sl ys] f)(hn:0<n):∃b o,a=some ⟨b,o,none⟩/\b<w.heap.size:=by
 cases h with
 |gk h=>omega
 |scons q1=>exact⟨_,_,rfl,Di q1⟩
theorem zCk:∀(zs:List VT) (j:Nat),j<zs.length->(Q8 zs)[j*3]?=some (.int .i64 (vz zs j).1)/\(Q8 zs)[j*3+1]?=some (.string (vz zs j).2.1)/\(Q8 zs)[j*3+2]?=some (.bool (vz zs j).2.2)
 | [],j,h=>by simp at h
 |z::zs,0,_=>by simp[Q8,vz]
 |z::zs,j+1,h=>by
  have ih:=zCk zs j (by simpa using h);have e:Q8 (z::zs)=[.int .i64 z.1, .string z.2.1, .bool z.2.2]++Q8 zs:=rfl;have ev:vz (z::zs) (j+1)=vz zs j:=by simp[vz]
  rw[e,ev];refine⟨?_,?_,?_⟩
  ·rw[List.getElem?_append_right (by simp;omega),show(j+1)*3- [Value.int .i64 z.1, .string z.2.1, .bool z.2.2].length=j*3 by simp;omega];exact ih.1
  ·rw[List.getElem?_append_right (by simp;omega),show(j+1)*3+1- [Value.int .i64 z.1, .string z.2.1, .bool z.2.2].length=j*3+1 by simp;omega];exact ih.2.1
  ·rw[List.getElem?_append_right (by simp;omega),show(j+1)*3+2- [Value.int .i64 z.1, .string z.2.1, .bool z.2.2].length=j*3+2 by simp;omega];exact ih.2.2
theorem pN(zs:List VT):On zs=zs.reverse:=by
 unfold On F3 Ly;rw[List.map_map];apply List.ext_getElem
 ·simp
 ·intro i h1 h2;have hi:i<zs.length:=by simpa using h1
  simp[vz,hi,show zs.length-1-i<zs.length by omega]
def IN(t:Int):List CD->List UInt8 × Bool
 | []=>([],false)
 |v::l=>if v.ak<=t then(v.aw, !v.bm)else IN t l
theorem zHC(t:Int):∀(zs:List VT),(Hf t zs).1.data.toList=(IN t (zs.map Ry)).1/\(Hf t zs).2=(IN t (zs.map Ry)).2
 | []=>⟨rfl,rfl⟩
 |z::zs=>by
  rw[Hf,List.map_cons,IN];show _=(if z.1<=t then(z.2.1.data.toList, !z.2.2)else IN t (zs.map Ry)).1/\_=(if z.1<=t then(z.2.1.data.toList, !z.2.2)else IN t (zs.map Ry)).2;split
  ·exact⟨rfl,rfl⟩
  ·exact zHC t zs
theorem zF9(t:Int):∀{zs:List VT},(∀z∈zs,z.2.1.size<=9223372036854775807)->(Hf t zs).1.size<=9223372036854775807
 | [],_=>by simp[Hf]
 |z::zs,h=>by
  rw[Hf];split
  ·exact h z (by simp)
  ·exact zF9 t λy hy=>h y (by simp[hy])
def zP4(P:Program)(sg:BY)(f np:Nat)(r:AV):Bool:=
 match P.funcs[f]?,sg f with
 |some fn,some s=>fn.body.isSome&& !(fn.name== "runtime.NumGoroutine")&&Nv P fn s r&&s.c8.all (λm=>match m with| .ro=>true|_=>false)&&fn.params.size==np&&fn.nfree==0&&(s.ft.isEmpty&&s.lo.isEmpty)&&(match fn.resultTypes.toList with| [t,u]=> !FL P t s.res&& !FL P u (s.res.drop (Bc P t).length)|_=>false)
 |_,_=>false
theorem zLD{f:Nat}{xs:List AV}{r1 r2:AV}(hk:zP4 Tryz.prog BM f xs.length (.tup [r1,r2])=true)(hc:∀(w:World) (vs:List Value) (rf:List Nat),Rd w vs xs rf->Calls Tryz.prog f vs.toArray w λe w'=>Mod [] w w'/\ ∃v1 v2,e= .returned (.tuple #[v1,v2])/\Rd w' [v1] [r1] []/\Rd w' [v2] [r2] []):Cj Tryz.prog BM f xs (.tup [r1,r2]):=by
 unfold zP4 at hk;split at hk
 ·rename_i fn s hf hs;simp only[Ac,Bk,Ay,Ba]at hk;obtain⟨⟨⟨⟨⟨⟨⟨h1,h2⟩,h3⟩,h4⟩,h5⟩,h6⟩,Cr⟩,h7⟩:=hk;obtain⟨Cr,B7⟩:s.ft=[]/\s.lo=[]:=by simpa using Cr
  have Ez:∀m∈s.c8,m= .ro:=λm hm=>by
   have:=h4 m hm;split at this
   ·rfl
   ·cases this
  unfold Cj;rw[if_pos (Ks f s hs)];refine⟨s,hs,fn,hf,h1,h2,h3,by omega,by simp[Cr],λw vs rf lf A9 Aj hd _ Cb D5=> ?_⟩;obtain⟨hr,rfl⟩:=Aj.rd B7 Ez;refine(hc w vs rf hr).mono ?_;rintro e w' ⟨hm,v1,v2,rfl,q1,q2⟩;refine⟨_,rfl,⟨⟨.tup [r1,r2],[],[],[],[],[],rfl,?_,DY.j8 ?_ Ez,by simp,by simp,by simp⟩,hm⟩⟩
  ·unfold K9;split at h7
   ·rename_i t u ht;simp only[Ac,Bk]at h7;rw[ht];refine⟨[v1,v2],[r1,r2],rfl,rfl,?_⟩;have e1:DI Tryz.prog w' t s.res v1 r1 [] []:=by unfold DI;rw[if_neg (by simpa using h7.1)];exact⟨q1,rfl⟩
    have e2:DI Tryz.prog w' u (s.res.drop (Bc Tryz.prog t).length) v2 r2 [] []:=by unfold DI;rw[if_neg (by simpa using h7.2)];exact⟨q2,rfl⟩
    simpa using Lt.cons e1 (Lt.cons e2 .nil)
   ·cases h7
  ·rw[hr.len];simp[Cr];omega
 ·cases hk
noncomputable def dV(c:Ap)(t:Int):Option (List UInt8 × Bool):=Ar (c.au.length*1000<=140737488351232) (some (IN t c.au.reverse))
theorem zvA(a0:Ap)(a1:Int)(r:List UInt8 × Bool)(h:dV a0 a1=some r):Cj Tryz.prog BM 152 [Ej a0, .int .i64 a1] (.tup [.str r.1, .bool r.2]):=by
 obtain⟨hb,h⟩:=F4 h;cases h;refine zLD (by kernel_rfl) λw vs rf hr=> ?_;have hl:=hr.len
 match vs,hl with
 | [v0,v1],_=>
  obtain⟨f1,f2,rfl,h0,h1⟩:=hr.dh;obtain⟨us,e1,hI,h1⟩:=Pd h1;cases e1;obtain⟨as_,rfl,h9,AN⟩:=Kq h0 (cs:=[.str a0.ab, .sl (a0.au.map IK)]) rfl;obtain⟨ks,us,rfl,_,_,AN⟩:=Lp AN;have Ig:=AN.len
  match us,Ig with
  | [sv],_=>
   obtain⟨a,c,cs,f3,rfl,hs,Zj,_⟩:=rV (K:=3) AN (λy hy=>by obtain⟨x,_,rfl⟩:=List.mem_map.1 hy;rfl) (by simp;omega);obtain⟨zs,rfl,hz,pB⟩:=zHH Zj;have hzl:a0.au.length=zs.length:=by rw[hz];simp
   rw[List.length_map,hzl]at hs ⊢;rw[hzl]at hb;have hI':Go.Proofs.YtlmjpjceiefpoaaGreatDoor.Vers w.heap.size w (.slice a zs.length c) zs:=by
    rcases Nat.eq_zero_or_pos zs.length with h0'|h0'
    ·have:zs=[]:=List.eq_nil_of_length_eq_zero h0';subst this;exact .inl ⟨a,c,rfl,rfl⟩
    ·obtain⟨b,o,ha,hbw⟩:=zN8 AN (by rw[List.length_map];omega);rcases hs with⟨h,_⟩|⟨ad,h,_,Bw,_⟩
     ·rw[h]at ha;cases ha
     ·rw[h]at ha;cases ha;subst h;refine .inr ⟨b,o,c,rfl,hbw,λj hj=> ?_⟩;obtain⟨w1,w2,w3⟩:=zCk zs j hj;refine⟨?_,?_,?_⟩
      ·have:=Bw _ _ w1;rwa[Addr.add_lit]at this
      ·have:=Bw _ _ w2;rwa[Addr.add_lit]at this
      ·have:=Bw _ _ w3;rwa[Addr.add_lit]at this
   have hc:=(callsIn_wide (n:=3)).1 (zQY Fence.wide 3 trivial trivial trivial rfl (AB _) ks a c a1 zs hb w hI');refine hc.mono ?_;rintro e w' ⟨rfl,hB⟩;obtain⟨z1,z2⟩:=zHC a1 (On zs);rw[pN,List.map_reverse,<-hz]at z1 z2;refine⟨Mod.jc hB (AB _),_,_,rfl,?_,?_⟩
   ·rw[<-z1,pN];exact .str (zF9 a1 λz Kg=>pB z (by simpa using Kg)) .nil
   ·rw[<-z2,pN];exact .bool .nil
end
end Go.Proofs.YtlmjpjceiefpoaaGreatDoor
