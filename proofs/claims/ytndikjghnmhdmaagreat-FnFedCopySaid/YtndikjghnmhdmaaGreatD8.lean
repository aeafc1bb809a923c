/- Parts of a proof, joined: CA, CC, CB, QM, QF1, QF2, QF3, QR, NE, N5, NK, NP. -/
import Derived.Test.YtndikjghnmhdmaaGreatD7
import Derived.RangeFuncNested
import Derived.RangeFuncBound
import Derived.RangeFuncCalls
import Derived.RangeFuncLeaves
import Derived.Shelf.Abstract
import Derived.Shelf.RegionOpen
import Derived.WalkKit
import Derived.OwnWalkIn
import Derived.TacticsInMore
import Derived.LoopNIn
import Derived.LoopIn
import Derived.Lib.SliceRun
import Derived.Shelf.RegionOpenPlain
set_option linter.unusedVariables false
set_option linter.unusedSimpArgs false
namespace Go.Proofs.YtndikjghnmhdmaaGreat
noncomputable section
open Go.RowKit Go.Shelf
abbrev Au:=List UInt8
attribute [local go_sem] Oper.semAt_some
abbrev VT:=Int × ByteArray × Bool
def vz(zs:List VT)(j:Nat):VT:=(zs[j]?).getD (0,ByteArray.empty,false)
def Ff{α:Type}(f:Nat->α)(k:Nat):List α:=(List.range k).map f
theorem mF{α:Type}(f:Nat->α)(k:Nat):Ff f (k+1)=Ff f k++ [f k]:=by simp[Ff,List.range_succ]
theorem zqQ{α:Type}(f:Nat->α)(k:Nat):(Ff f k).length=k:=by simp[Ff]
def Jm(zs:List VT)(j:Nat):Nat × VT:=(zs.length-1-j,vz zs (zs.length-1-j))
def sZ(W:World)(b off:Nat)(zs:List VT):Prop:= ∀j,j<zs.length->W.cell? ⟨b,off+j*3,none⟩=some (.int .i64 (vz zs j).1)/\W.cell? ⟨b,off+j*3+1,none⟩=some (.string (vz zs j).2.1)/\W.cell? ⟨b,off+j*3+2,none⟩=some (.bool (vz zs j).2.2)
def Vers(n₀:Nat)(W:World)(sv:Value)(zs:List VT):Prop:=(∃a c,sv= .slice a 0 c/\zs=[])\/ ∃b off cap,sv= .slice (some ⟨b,off,none⟩) zs.length cap/\b<n₀/\sZ W b off zs
theorem Vers.below{n₀:Nat}{A B:World}(h:Below n₀ A B){sv:Value}{zs:List VT}:Vers n₀ A sv zs->Vers n₀ B sv zs
 | .inl e=> .inl e
 | .inr ⟨b,off,cap,e,hb,hc⟩=> .inr ⟨b,off,cap,e,hb,λj hj=>⟨(h.cell (p:=⟨b,off+j*3,none⟩) hb).trans (hc j hj).1,(h.cell (p:=⟨b,off+j*3+1,none⟩) hb).trans (hc j hj).2.1,(h.cell (p:=⟨b,off+j*3+2,none⟩) hb).trans (hc j hj).2.2⟩⟩
theorem Vers.mono{n₀ n₁:Nat}{W:World}{sv:Value}{zs:List VT}(h:n₀<=n₁):Vers n₀ W sv zs->Vers n₁ W sv zs
 | .inl e=> .inl e
 | .inr ⟨b,off,cap,e,hb,hc⟩=> .inr ⟨b,off,cap,e,by omega,hc⟩
set_option maxRecDepth 100000 in
set_option maxHeartbeats 2000000 in
theorem zw9(F:Fence)(n:Nat)(h7:F.fn 132)(DS:F.round=none)(hn:1<=n)(l Bs n₀ b off cap:Nat)(zs:List VT)(Ew:zs.length*1000<=140737488351232)(hb:b<n₀)(J Jx:List (Nat × VT)->World->Prop)
  (hY:∀pre x W,J pre W->pre.length<zs.length->YieldAt F (n-1) Tryz.prog l #[.int .i64 (x.1:Int), .agg #[.int .i64 x.2.1, .string x.2.2.1, .bool x.2.2.2]] W λe W'=>
   (e= .returned (.bool true)/\J (pre++ [x]) W'/\Below n₀ W W')\/(e= .returned (.bool false)/\Jx (pre++ [x]) W'))
  (W:World) (Hh:W.cell? ⟨Bs,0,none⟩=some (.slice (some ⟨b,off,none⟩) zs.length cap)) (QP:Bs<n₀) (hc:sZ W b off zs) (h0:J [] W):
  CallsIn F n Tryz.prog 132 #[.func (.yield l) #[] #[], .pointer (some ⟨Bs,0,none⟩)] W λe W'=>(∃v,e= .returned v)/\
   ((∃ys,ys=Ff (Jm zs) zs.length/\J ys W')\/(∃pre,(∃k,k<=zs.length/\pre=Ff (Jm zs) k)/\Jx pre W')):=by
 refine callsIn_of_wp Tryz.func132 rfl h7 ?_ DS;simp only[Tryz.ntmps132,List.size_toArray,AR,List.length_nil,Nat.reduceAdd,Nat.reduceSub,Array.replicate_succ,Array.replicate_zero,List.push_toArray,List.append_toArray,List.nil_append,List.cons_append];have HC:=Lib.hid hc;obtain⟨len,hlen⟩:∃len,len=zs.length:=⟨_,rfl⟩
 rw[<-hlen]at Hh Ew;have HL:=Lib.hid hlen;clear hc hlen
 gi_wp2
 gi_loopw [3] (λi wr=> ∃(k m:Nat) (q:Int),k+m=len/\q=(m:Int)-1/\i= .int .i64 q/\J (Ff (Jm zs) k) wr/\Below n₀ W wr)
  (λi _=>(intOf i+1).toNat)
 case atStart=>exact⟨0,len,_,by omega,rfl,rfl,h0,Below.refl _ _⟩
 case round=>
  obtain⟨k,m,q,hkm,hq,rfl,T2,Nc⟩:=hrel;have tK:wr.cell? ⟨Bs,0,none⟩=some (.slice (some ⟨b,off,none⟩) len cap):=(Nc.cell (p:=⟨Bs,0,none⟩) QP).trans Hh;cases m with
  |succ m=>
   obtain rfl:q=(m:Int):=by omega
   clear hq;have M5:m<zs.length:=by rw[<-HL.out];omega
   have Lm:Jm zs k=(m,vz zs m):=by unfold Jm;rw[show zs.length-1-k=m by rw[<-HL.out];omega]
   have RW:=HC.out m M5;obtain⟨⟨tm,sm,gm⟩,hz⟩:∃x:VT,vz zs m=x:=⟨_,rfl⟩
   rw[hz]at RW Lm;obtain⟨fn,tmps,assign,body,hy,hR⟩:=hY _ (m,tm,sm,gm) wr T2 (by rw[zqQ,<-HL.out];omega);dsimp only at hy;have Jv:=(Nc.cell (p:=⟨b,off+m*3,none⟩) hb).trans RW.1;have BW:=(Nc.cell (p:=⟨b,off+m*3+1,none⟩) hb).trans RW.2.1;have gR:=(Nc.cell (p:=⟨b,off+m*3+2,none⟩) hb).trans RW.2.2;dsimp only at Jv BW gR;have HB:=Lib.hid Lm;have AL:m<len:=by omega
   clear RW hz Lm M5
   gi_wp2
   refine hR.mono ?_;rintro e W3 (⟨rfl,tQ,uV⟩|⟨rfl,XA⟩)
   ·gi_wp2
    go_roundw
    case rel=>exact⟨k+1,m,_,by omega,rfl,by go_num,by rw[mF,HB.out];exact tQ,Nc.trans uV⟩
    case measure=>simp[intOf]
   ·gi_wp2
    refine bodyPost_ret (results_none rfl _ _ _) rfl ?_;exact⟨⟨_,rfl⟩, .inr ⟨_,⟨k+1,by rw[<-HL.out];omega,by rw[mF,HB.out]⟩,XA⟩⟩
  |zero=>
   obtain rfl:q= -1:=by omega
   clear hq
   gi_wp2
   go_end0
   exact⟨⟨_,rfl⟩, .inl ⟨_,by rw[show k=zs.length by rw[<-HL.out];omega],T2⟩⟩
set_option maxRecDepth 100000 in
set_option maxHeartbeats 1000000 in
theorem zrf(F:Fence)(n:Nat)(h7:F.fn 132)(DS:F.round=none)(l Bs:Nat)(a:Option Addr)(c:Nat)(J:List (Nat × VT)->World->Prop)(W:World)(Hh:W.cell? ⟨Bs,0,none⟩=some (.slice a 0 c))(h0:J [] W):
  CallsIn F n Tryz.prog 132 #[.func (.yield l) #[] #[], .pointer (some ⟨Bs,0,none⟩)] W λe W'=>(∃v,e= .returned v)/\J [] W':=by
 refine callsIn_of_wp Tryz.func132 rfl h7 ?_ DS;simp only[Tryz.ntmps132,List.size_toArray,AR,List.length_nil,Nat.reduceAdd,Nat.reduceSub,Array.replicate_succ,Array.replicate_zero,List.push_toArray,List.append_toArray,List.nil_append,List.cons_append]
 gi_wp2
 gi_loopw [3] (λi wr=>i= .int .i64 (-1)/\J [] wr) (λ_ _=>0)
 case atStart=>exact⟨rfl,h0⟩
 case round=>
  obtain⟨rfl,T2⟩:=hrel
  gi_wp2
  go_end0
  exact⟨⟨_,rfl⟩,T2⟩
set_option maxHeartbeats 1000000 in
theorem zyK(F:Fence)(n:Nat)(h5:F.fn 89)(DS:F.round=none)(a:Option Addr)(len cap:Nat)(w:World):
  CallsIn F n Tryz.prog 89 #[.slice a len cap] w λe w'=>e= .returned (.func (.func 132) #[] #[.pointer (some ⟨w.heap.size,0,none⟩)])/\w'=w.alloc (.cells #[.slice a len cap] 87):=by
 refine callsIn_of_wp Tryz.func89 rfl h5 ?_ DS;simp only[Tryz.ntmps89,List.size_toArray,AR,List.length_nil,Nat.reduceAdd,Nat.reduceSub,Array.replicate_succ,Array.replicate_zero,List.push_toArray,List.append_toArray,List.nil_append,List.cons_append]
 gi_wp2
 go_ret
 exact⟨rfl,rfl⟩
theorem zti(F:Fence)(n:Nat)(h7:F.fn 132)(DS:F.round=none)(hn:1<=n)(Bs n₀:Nat)(sv:Value)(zs:List VT)(Ew:zs.length*1000<=140737488351232)(w:World)(Hh:Bs<w.heap.size)(QP:Bs<n₀)(vH:n₀<=w.heap.size)
  (hc:w.cell? ⟨Bs,0,none⟩=some sv) (hI:Vers n₀ w sv zs):
  SeqStopsK F n Tryz.prog 132 #[.pointer (some ⟨Bs,0,none⟩)] (λx:Nat × VT=> #[Value.int .i64 (x.1:Int), .agg #[.int .i64 x.2.1, .string x.2.2.1, .bool x.2.2.2]]) (Below n₀) (λys=>ys=Ff (Jm zs) zs.length)
   (λpre=> ∃k,k<=zs.length/\pre=Ff (Jm zs) k) zs.length w:=λl J Jx W hW _ _ hY h0=>by
 have Q2:=(hW.cell (p:=⟨Bs,0,none⟩) Hh).trans hc;rcases hI.below (hW.mono vH)with⟨a,c,rfl,rfl⟩|⟨b,off,cap,rfl,hb,Bi⟩
 ·exact(zrf F n h7 DS l Bs a c J W Q2 h0).mono λe W' ⟨he,hj⟩=>⟨he, .inl ⟨_,rfl,hj⟩⟩
 ·exact zw9 F n h7 DS hn l Bs n₀ b off cap zs Ew hb J Jx hY W Q2 QP Bi h0
def F0(time:Int):List VT->ByteArray × Bool
 | []=>(ByteArray.empty,false)
 |x::l=>if x.1<=time then(x.2.1, !x.2.2)else F0 time l
def Mo(zs:List VT):List VT:=(Ff (Jm zs) zs.length).map (·.2)
theorem eB{time:Int}:∀{ini rest:List VT},(∀p∈ini,¬p.1<=time)->F0 time (ini++rest)=F0 time rest
 | [],_,_=>rfl
 |x::l,rest,h=>by rw[List.cons_append,F0,if_neg (h x (by simp)),eB λp hp=>h p (by simp[hp])]
theorem ztL{α:Type}(f:Nat->α){k n:Nat}(h:k<=n):Ff f n=Ff f k++(Ff f n).drop k:=by
 have:Ff f k=(Ff f n).take k:=by simp[Ff,<-List.map_take,List.take_range,Nat.min_eq_left h]
 rw[this,BC]
def Xl(time:Int)(pre:List (Nat × VT)):Prop:= ∀p∈pre,¬p.2.1<=time
theorem zwt{time:Int}{l:List (Nat × VT)}(h:Xl time l):F0 time (l.map (·.2))=(ByteArray.empty,false):=by
 have:=eB (time:=time) (ini:=l.map (·.2)) (rest:=[]) λp hp=>by obtain⟨q,hq,rfl⟩:=List.mem_map.1 hp;exact h q hq
 rw[AB]at this;exact this
theorem zw2{time:Int}{zs:List VT}{k:Nat}(hk:k<=zs.length){ini:List (Nat × VT)}{last:Nat × VT}(h1:Ff (Jm zs) k=ini++ [last])(h2:Xl time ini)(h3:last.2.1<=time):F0 time (Mo zs)=(last.2.2.1, !last.2.2.2):=by
 unfold Mo;rw[ztL _ hk,h1,List.append_assoc,List.map_append,eB (λp hp=>by obtain⟨q,hq,rfl⟩:=List.mem_map.1 hp;exact h2 q hq)]
 show F0 time (last.2::_)=_;rw[F0,if_pos h3]
def xH(time:Int)(s e1 e2:Nat)(pre:List (Nat × VT))(W:World):Prop:= ∃ini last,pre=ini++ [last]/\Xl time ini/\last.2.1<=time/\Boxed W (s+1+1) e1 (.string last.2.2.1)/\Boxed W (s+1+1+1) e2 (.bool !last.2.2.2)
set_option maxRecDepth 100000 in
set_option maxHeartbeats 4000000 in
theorem xK(F:Fence)(n:Nat)(h4:F.fn 53)(h6:F.fn 89)(h8:F.fn 132)(DS:F.round=none)(hn:3<=n)(ks:ByteArray)(a:Option Addr)(cap:Nat)(time:Int)(zs:List VT)(Ew:zs.length*1000<=140737488351232)(w:World)(hI:Vers w.heap.size w (.slice a zs.length cap) zs):
  CallsIn F n Tryz.prog 53 #[.agg #[.string ks, .slice a zs.length cap], .int .i64 time] w λe W'=>e= .returned (.tuple #[.string (F0 time (Mo zs)).1, .bool (F0 time (Mo zs)).2])/\Below w.heap.size w W':=by
 have h1:1<=n:=by omega
 refine callsIn_of_wp_marks Tryz.func53 rfl h4 ?_ DS;simp only[Tryz.ntmps53,List.size_toArray,AR,List.length_nil,Nat.reduceAdd,Nat.reduceSub,Array.replicate_succ,Array.replicate_zero,List.push_toArray,List.append_toArray,List.nil_append,List.cons_append];obtain⟨len,hlen⟩:∃len,len=zs.length:=⟨_,rfl⟩
 rw[<-hlen]at hI ⊢;have HL:=Lib.hid hlen;clear hlen
 gi_wp2_with (gi_at_call 89;refine(zyK F (n-1) h6 DS _ _ _ _).mono ?_;rintro e w' ⟨rfl,rfl⟩)
 have e1:Boxed ((w.alloc (.cells #[.string ks, .slice a len cap] 89)).alloc (.cells #[.int .i64 time] 3)) (w.heap.size+1) 3 (.int .i64 time):=by have:=Boxed.new (w.alloc (.cells #[.string ks, .slice a len cap] 89)) 3 (.int .i64 time);rwa[World.size_alloc]at this
 have bT:=((e1.alloc (.cells #[.string {data:= #[]}] 9)).alloc (.cells #[.bool false] 4)).alloc (.cells #[.slice a len cap] 87);have e2:=Boxed.new ((w.alloc (.cells #[.string ks, .slice a len cap] 89)).alloc (.cells #[.int .i64 time] 3)) 9 (.string {data:= #[]});have bS:=(e2.alloc (.cells #[.bool false] 4)).alloc (.cells #[.slice a len cap] 87);have e3:=Boxed.new (((w.alloc (.cells #[.string ks, .slice a len cap] 89)).alloc (.cells #[.int .i64 time] 3)).alloc (.cells #[.string {data:= #[]}] 9)) 4 (.bool false);have bG:=e3.alloc (.cells #[.slice a len cap] 87);have bN:=Boxed.new ((((w.alloc (.cells #[.string ks, .slice a len cap] 89)).alloc (.cells #[.int .i64 time] 3)).alloc (.cells #[.string {data:= #[]}] 9)).alloc (.cells #[.bool false] 4)) 87 (.slice a len cap);simp only[World.size_alloc]at bT bS bG bN;have Xu:Below w.heap.size w (((((w.alloc (.cells #[.string ks, .slice a len cap] 89)).alloc (.cells #[.int .i64 time] 3)).alloc (.cells #[.string {data:= #[]}] 9)).alloc (.cells #[.bool false] 4)).alloc (.cells #[.slice a len cap] 87)):=
  (((((Below.refl _ w).alloc (Av _) _).alloc (by simp) _).alloc (by simp;omega) _).alloc (by simp;omega) _).alloc (by simp;omega) _
 have BF:(((((w.alloc (.cells #[.string ks, .slice a len cap] 89)).alloc (.cells #[.int .i64 time] 3)).alloc (.cells #[.string {data:= #[]}] 9)).alloc (.cells #[.bool false] 4)).alloc (.cells #[.slice a len cap] 87)).heap.size=w.heap.size+5:=by simp
 clear e1 e2 e3;obtain⟨W0,gN⟩:∃W0,(((((w.alloc (.cells #[.string ks, .slice a len cap] 89)).alloc (.cells #[.int .i64 time] 3)).alloc (.cells #[.string {data:= #[]}] 9)).alloc (.cells #[.bool false] 4)).alloc (.cells #[.slice a len cap] 87))=W0:=⟨_,rfl⟩
 rw[gN]at bT bS bG bN Xu BF ⊢;clear gN;have hV:Vers (w.heap.size+5) W0 (.slice a len cap) zs:=(hI.below Xu).mono (by omega);have bk:∀{A B:World} {row:Option Nat} {b t:Nat} {v:Value},Boxed A b t v->A.grownBy B row->(∀r,row=some r-> ∃o,A.heap[r]?=some o/\o.isCells=false)->Boxed B b t v:=λ{A B row b t v} h hg hr=>boxed_own b t (λ(_:Unit)=>v) () A B row h hg hr;refine wpIn_rangeFunc_ownH DS h1 (gf:=132) (lb:= #[.pointer (some ⟨w.heap.size+1+1+1+1,0,none⟩)]) rfl h8 (enters_of Tryz.func132 (by kernel_rfl) rfl)
  (zti F (n-1) h8 DS (by omega) (w.heap.size+1+1+1+1) (w.heap.size+5) _ zs Ew W0 (by omega) (by omega) (by omega) bN.cell hV) belowK_t (belowK_b (by omega)) (Below.refl _ _) (λ_=>rfl)
  (λpre W=>(Xl time pre/\Boxed W (w.heap.size+1) 3 (.int .i64 time)/\Boxed W (w.heap.size+1+1) 9 (.string {data:= #[]})/\Boxed W (w.heap.size+1+1+1) 4 (.bool false)/\Boxed W (w.heap.size+1+1+1+1) 87 (.slice a len cap))/\Below w.heap.size w W)
  (λc pre W=>(c= .ret/\xH time w.heap.size 9 4 pre W)/\Below w.heap.size w W)
  (OwnFrom.and (Own.from (λs A B row hs hg hr=>⟨hs.1,bk hs.2.1 hg hr,bk hs.2.2.1 hg hr,bk hs.2.2.2.1 hg hr,bk hs.2.2.2.2 hg hr⟩) _) (ownFrom_below (Av _) (by omega)))
  (λc=>OwnFrom.and (Own.from (λs A B row hs hg hr=>by obtain⟨hc,ini,last,q1,q2,q3,q4,q5⟩:=hs;exact⟨hc,ini,last,q1,q2,q3,bk q4 hg hr,bk q5 hg hr⟩) _) (ownFrom_below (Av _) (by omega)))
  ⟨⟨λp hp=>by simp at hp,bT,bS,bG,bN⟩,Xu⟩
  (λx a' W=> ∃Bx,w.heap.size+5<=Bx/\W.heap[Bx]?=some (.cells #[.int .i64 x.2.1, .string x.2.2.1, .bool x.2.2.2] 91 (0,0))/\a'={tmps:= #[.agg #[.string ks, .slice a len cap], .int .i64 time, .pointer (some ⟨w.heap.size,0,none⟩), .pointer (some ⟨w.heap.size+1,0,none⟩), .pointer (some ⟨w.heap.size+1+1,0,none⟩), .pointer (some ⟨w.heap.size+1+1+1,0,none⟩),undef, .pointer (some ⟨Bx,0,none⟩), .pointer (some ⟨w.heap.size,1,none⟩), .slice a len cap, .func (.func 132) #[] #[.pointer (some ⟨w.heap.size+1+1+1+1,0,none⟩)], .int .i64 (x.1:Int), .agg #[.int .i64 x.2.1, .string x.2.2.1, .bool x.2.2.2],undef,undef,undef,undef,undef,undef,undef,undef,undef],defers:=[]})
  (λx a' _ X Y row hs hg hr=>by obtain⟨Bx,q1,q2,q3⟩:=hs;refine⟨Bx,q1,(hg.block Bx (De q2) λe=> ?_).trans q2,q3⟩;obtain⟨o,ho,vJ⟩:=(hr _ e.symm).2;rw[q2]at ho;cases ho;cases vJ)
  ?assign ?body ?done ?stop
 case assign=>
  rintro l pre ⟨xj,xt,xs,xg⟩ W K ⟨⟨hp,bT1,bS1,bG1,bN1⟩,Li⟩ hK;have T3:=World.alloc_heap_new W (.cells #[.int .i64 0, .string {data:= #[]}, .bool false] 91)
  gi_wp2
  exact hK _ _ ((KeepsOthers.alloc _ _).from _) ((Below.refl _ W).alloc (by have:=bN1.lt;omega) _) ⟨⟨hp,bT1.alloc _,bS1.alloc _,bG1.alloc _,bN1.alloc _⟩,Li.alloc Li.size _⟩ ⟨W.heap.size,by have:=bN1.lt;omega,World.alloc_heap_new W _,rfl⟩
 case body=>
  rintro l pre ⟨xj,xt,xs,xg⟩ a' W hl ⟨r,hr⟩ ⟨⟨hp,bT1,bS1,bG1,bN1⟩,Li⟩ ⟨Bx,hBx,tX,rfl⟩ AL;have cT:=bT1.cell;have cS:=bS1.cell;have fS:=bS1.frozen;have cG:=bG1.cell;have fG:=bG1.frozen;have cV:=P1 tX;have Ud:Tryz.prog.follows .mixedOrders=true:=by kernel_rfl
  gi_wp2
  ·have hx:xt<=time:=by assumption
   gi_region_o
   all_goals gi_wp2
   all_goals first
    |exact⟨(((KeepsOthers.setCell _ _ _).trans (KeepsOthers.setCell _ _ _)).trans (KeepsOthers.drew _)).from _,⟨rfl,pre,(xj,xt,xs,xg),rfl,hp,hx,(bS1.set _).other (by omega) _,(bG1.other (by omega) _).set _⟩,((Li.setCell (p:=⟨w.heap.size+1+1,0,none⟩) (by simp;omega) _).setCell (p:=⟨w.heap.size+1+1+1,0,none⟩) (by simp;omega) _).drew⟩
    |exact⟨(((KeepsOthers.setCell _ _ _).trans (KeepsOthers.setCell _ _ _)).trans (KeepsOthers.drew _)).from _,⟨rfl,pre,(xj,xt,xs,xg),rfl,hp,hx,(bS1.other (by omega) _).set _,(bG1.set _).other (by omega) _⟩,((Li.setCell (p:=⟨w.heap.size+1+1+1,0,none⟩) (by simp;omega) _).setCell (p:=⟨w.heap.size+1+1,0,none⟩) (by simp;omega) _).drew⟩
  ·have hx: ¬xt<=time:=by first|assumption|omega
   refine⟨KeepsFrom.refl _ _,Below.refl _ _,⟨λp hp'=> ?_,bT1,bS1,bG1,bN1⟩,Li⟩;rcases Af.1 hp' with h|h
   ·exact hp p h
   ·simp only[List.mem_singleton]at h;subst h;exact hx
 case done=>
  rintro D ys W hD rfl ⟨⟨BM,bT1,bS1,bG1,bN1⟩,Li⟩ hK;have cS:=bS1.cell;have fS:=bS1.frozen;have cG:=bG1.cell;have fG:=bG1.frozen
  gi_wp2
  have Oy:=((KeepsOthers.setCell W ⟨w.heap.size+1+1,0,none⟩ (.string {data:= #[]})).trans (KeepsOthers.setCell _ ⟨w.heap.size+1+1+1,0,none⟩ (.bool false))).same D _ hK rfl;have b1:=(bS1.set (.string {data:= #[]})).other (show w.heap.size+1+1≠w.heap.size+1+1+1 by omega) (.bool false);have b2:=(bG1.other (show w.heap.size+1+1+1≠w.heap.size+1+1 by omega) (.string {data:= #[]})).set (.bool false);refine⟨by simp, .inl ⟨_,_,rfl,run_takeDeferred Oy,?_⟩⟩;have c1:=cell_kept b1.cell (grownBy_putObj' _ D (.deferred none)) (λr e=>by cases e;exact⟨_,Oy,rfl⟩);have c2:=cell_kept b2.cell (grownBy_putObj' _ D (.deferred none)) (λr e=>by cases e;exact⟨_,Oy,rfl⟩);refine⟨.tuple #[.string {data:= #[]}, .bool false],?_,by rw[show Mo zs=(Ff (Jm zs) zs.length).map (·.2)from rfl,zwt BM];rfl,((Li.setCell (p:=⟨w.heap.size+1+1,0,none⟩) (by simp;omega) _).setCell (p:=⟨w.heap.size+1+1+1,0,none⟩) (by simp;omega) _).trans (belowK_b (w:=w) (Av _) _ D _ _ (by omega) Oy rfl rfl)⟩;simp[results,Tryz.f53,go_sem,c1,c2]
 case stop=>
  rintro D c pre W hD ⟨k,hk,rfl⟩ ⟨⟨rfl,ini,last,q1,q2,q3,q4,q5⟩,hB⟩ hK
  gi_wp2
  refine⟨by simp, .inl ⟨_,_,rfl,run_takeDeferred hK,?_⟩⟩;have c1:=cell_kept q4.cell (grownBy_putObj' _ D (.deferred none)) (λr e=>by cases e;exact⟨_,hK,rfl⟩);have c2:=cell_kept q5.cell (grownBy_putObj' _ D (.deferred none)) (λr e=>by cases e;exact⟨_,hK,rfl⟩);refine⟨.tuple #[.string last.2.2.1, .bool !last.2.2.2],?_,by rw[zw2 hk q1 q2 q3],hB.trans (belowK_b (w:=w) (Av _) W D _ _ (by omega) hK rfl rfl)⟩;simp[results,Tryz.f53,go_sem,c1,c2]
end
noncomputable section
open Go.RowKit
set_option maxRecDepth 100000
set_option maxHeartbeats 4000000
theorem zzv{w:World}{v:Value}{ys:List AV}{f:List Nat}{K:Nat}(h:Rd w [v] [.sl ys] f)(hK:∀y∈ys,y.cells.length=K)(hb:ys.length<=9223372036854775807):
  ∃a c cs f1,v= .slice a ys.length c/\Src w K a ys.length cs/\Rd w cs (Ap ys) f1/\ ∀b∈f1,b∈f:=by
 cases h with
 |dn h=>
  rename_i a c;refine⟨a,c,[],[],rfl,?_,by simpa[Ap]using Rd.nil,by simp⟩;cases a with
  |none=>exact .inl ⟨rfl,rfl,rfl⟩
  |some ad=>exact .inr ⟨ad,rfl,by simp,by simp,by simp⟩
 | @scons b o n c ys cs C ty fz sz f1 vs xs f2 q1 q2 q3 q4 q5 q6 q7 q8 q9 q10=>
  subst q4;have BF:sz=K:=by
   cases ys with
   |nil=>simp at q2
   |cons y ys=>rw[<-q5 y (by simp),hK y (by simp)]
  subst BF;refine⟨some ⟨b,o,none⟩,c,cs,f1,rfl, .inr ⟨⟨b,o,none⟩,rfl,?_,λj u hj=> ?_,q8⟩,q9,λx hx=>by simp[hx]⟩
  ·rw[q9.len,JI _ hK]
  ·rw[Addr.add_lit,Ef q1];exact q7 j u hj
def OO(z:VT):B8:=⟨z.1,z.2.1.data.toList,z.2.2⟩
def Oa(zs:List VT):List Value:=zs.flatMap λz=> [.int .i64 z.1, .string z.2.1, .bool z.2.2]
theorem zyZ{w:World}{b:Bool}{vs:List Value}{xs:List AV}{f:List Nat}(h:Rd w vs (.bool b::xs) f):∃us:List Value,vs= .bool b::us/\Rd w us xs f:=by
 cases h with
 |bool h=>exact⟨_,rfl,h⟩
theorem rC{w:World}:∀{vers:List B8} {cs:List Value} {f:List Nat},Rd w cs (Ap (vers.map Ml)) f-> ∃zs:List VT,cs=Oa zs/\vers=zs.map OO/\ ∀z∈zs,z.2.1.size<=9223372036854775807
 | [],cs,f,h=>by have:Ap (([]:List B8).map Ml)=[]:=rfl;rw[this]at h;obtain⟨rfl,_⟩:=WO h;exact⟨[],rfl,rfl,by simp⟩
 |x::xs,cs,f,h=>by
  have e:Ap ((x::xs).map Ml)= .int .i64 x.ab:: .str x.a7:: .bool x.au::Ap (xs.map Ml):=by simp[Ap,Ml,AV.cells]
  rw[e]at h;obtain⟨us,rfl,hk,h1⟩:=W8 h;obtain⟨s,us,rfl,hs,hn,h2⟩:=Xg h1;obtain⟨us,rfl,h3⟩:=zyZ h2;obtain⟨zs,rfl,hz,Za⟩:=rC h3;refine⟨(x.ab,s,x.au)::zs,rfl,by rw[List.map_cons,<-hz];congr 1;unfold OO;rw[hs],λz Ib=> ?_⟩;rcases Ad.1 Ib with rfl|Ib
  ·exact hn
  ·exact Za z Ib
theorem zyr{w:World}{a:Option Addr}{n c:Nat}{ys:List AV}{f:List Nat}(h:Rd w [.slice a n c] [.sl ys] f)(hn:0<n):∃b o,a=some ⟨b,o,none⟩/\b<w.heap.size:=by
 cases h with
 |dn h=>omega
 |scons q1=>exact⟨_,_,rfl,De q1⟩
theorem oK:∀(zs:List VT) (j:Nat),j<zs.length->(Oa zs)[j*3]?=some (.int .i64 (vz zs j).1)/\(Oa zs)[j*3+1]?=some (.string (vz zs j).2.1)/\(Oa zs)[j*3+2]?=some (.bool (vz zs j).2.2)
 | [],j,h=>by simp at h
 |z::zs,0,_=>by simp[Oa,vz]
 |z::zs,j+1,h=>by
  have ih:=oK zs j (by simpa using h);have e:Oa (z::zs)=[.int .i64 z.1, .string z.2.1, .bool z.2.2]++Oa zs:=rfl;have ev:vz (z::zs) (j+1)=vz zs j:=by simp[vz]
  rw[e,ev];refine⟨?_,?_,?_⟩
  ·rw[List.getElem?_append_right (by simp;omega),show(j+1)*3- [Value.int .i64 z.1, .string z.2.1, .bool z.2.2].length=j*3 by simp;omega];exact ih.1
  ·rw[List.getElem?_append_right (by simp;omega),show(j+1)*3+1- [Value.int .i64 z.1, .string z.2.1, .bool z.2.2].length=j*3+1 by simp;omega];exact ih.2.1
  ·rw[List.getElem?_append_right (by simp;omega),show(j+1)*3+2- [Value.int .i64 z.1, .string z.2.1, .bool z.2.2].length=j*3+2 by simp;omega];exact ih.2.2
theorem dO(zs:List VT):Mo zs=zs.reverse:=by
 unfold Mo Ff Jm;rw[List.map_map];apply List.ext_getElem
 ·simp
 ·intro i h1 h2;have hi:i<zs.length:=by simpa using h1
  simp[vz,hi,show zs.length-1-i<zs.length by omega]
def Ft(t:Int):List B8->Au × Bool
 | []=>([],false)
 |v::l=>if v.ab<=t then(v.a7, !v.au)else Ft t l
theorem rB(t:Int):∀(zs:List VT),(F0 t zs).1.data.toList=(Ft t (zs.map OO)).1/\(F0 t zs).2=(Ft t (zs.map OO)).2
 | []=>⟨rfl,rfl⟩
 |z::zs=>by
  rw[F0,List.map_cons,Ft];show _=(if z.1<=t then(z.2.1.data.toList, !z.2.2)else Ft t (zs.map OO)).1/\_=(if z.1<=t then(z.2.1.data.toList, !z.2.2)else Ft t (zs.map OO)).2;split
  ·exact⟨rfl,rfl⟩
  ·exact rB t zs
theorem o5(t:Int):∀{zs:List VT},(∀z∈zs,z.2.1.size<=9223372036854775807)->(F0 t zs).1.size<=9223372036854775807
 | [],_=>by simp[F0]
 |z::zs,h=>by
  rw[F0];split
  ·exact h z (by simp)
  ·exact o5 t λy hy=>h y (by simp[hy])
def s6(P:Program)(sg:BN)(f np:Nat)(r:AV):Bool:=
 match P.funcs[f]?,sg f with
 |some fn,some s=>fn.body.isSome&& !(fn.name== "runtime.NumGoroutine")&&JN P fn s r&&s.bj.all (λm=>match m with| .ro=>true|_=>false)&&fn.params.size==np&&fn.nfree==0&&(s.ft.isEmpty&&s.lo.isEmpty)&&(match fn.resultTypes.toList with| [t,u]=> !FW P t s.res&& !FW P u (s.res.drop (A2 P t).length)|_=>false)
 |_,_=>false
theorem zxu{f:Nat}{xs:List AV}{r1 r2:AV}(hk:s6 Tryz.prog Cd f xs.length (.tup [r1,r2])=true)(hc:∀(w:World) (vs:List Value) (rf:List Nat),Rd w vs xs rf->Calls Tryz.prog f vs.toArray w λe w'=>Mod [] w w'/\ ∃v1 v2,e= .returned (.tuple #[v1,v2])/\Rd w' [v1] [r1] []/\Rd w' [v2] [r2] []):Cg Tryz.prog Cd f xs (.tup [r1,r2]):=by
 unfold s6 at hk;split at hk
 ·rename_i fn s hf hs;simp only[Ab,Br,AJ,A7]at hk;obtain⟨⟨⟨⟨⟨⟨⟨h1,h2⟩,h3⟩,h4⟩,h5⟩,h6⟩,Cr⟩,h7⟩:=hk;obtain⟨Cr,BQ⟩:s.ft=[]/\s.lo=[]:=by simpa using Cr
  have DS:∀m∈s.bj,m= .ro:=λm hm=>by
   have:=h4 m hm;split at this
   ·rfl
   ·cases this
  unfold Cg;rw[if_pos (K2 f s hs)];refine⟨s,hs,fn,hf,h1,h2,h3,by omega,by simp[Cr],λw vs rf lf Ba Ah hd _ BZ DR=> ?_⟩;obtain⟨hr,rfl⟩:=Ah.rd BQ DS;refine(hc w vs rf hr).mono ?_;rintro e w' ⟨hm,v1,v2,rfl,q1,q2⟩;refine⟨_,rfl,⟨⟨.tup [r1,r2],[],[],[],[],[],rfl,?_,Dg.il ?_ DS,by simp,by simp,by simp⟩,hm⟩⟩
  ·unfold Jq;split at h7
   ·rename_i t u ht;simp only[Ab,Br]at h7;rw[ht];refine⟨[v1,v2],[r1,r2],rfl,rfl,?_⟩;have e1:Eb Tryz.prog w' t s.res v1 r1 [] []:=by unfold Eb;rw[if_neg (by simpa using h7.1)];exact⟨q1,rfl⟩
    have e2:Eb Tryz.prog w' u (s.res.drop (A2 Tryz.prog t).length) v2 r2 [] []:=by unfold Eb;rw[if_neg (by simpa using h7.2)];exact⟨q2,rfl⟩
    simpa using Jn.cons e1 (Jn.cons e2 .nil)
   ·cases h7
  ·rw[hr.len];simp[Cr];omega
 ·cases hk
def Vl(c:Ag)(t:Int):Option (Au × Bool):=req (c.al.length*1000<=140737488351232) (some (Ft t c.al.reverse))
theorem zmb(a0:Ag)(a1:Int)(r:Au × Bool)(h:Vl a0 a1=some r):Cg Tryz.prog Cd 53 [fE a0, .int .i64 a1] (.tup [.str r.1, .bool r.2]):=by
 obtain⟨hb,h⟩:=GP h;cases h;refine zxu (by kernel_rfl) λw vs rf hr=> ?_;have hl:=hr.len
 match vs,hl with
 | [v0,v1],_=>
  obtain⟨f1,f2,rfl,h0,h1⟩:=hr.br;obtain⟨us,e1,hI,h1⟩:=W8 h1;cases e1;obtain⟨as_,rfl,h9,Ay⟩:=Io h0 (cs:=[.str a0.ae, .sl (a0.al.map Ml)]) rfl;obtain⟨ks,us,rfl,_,_,Ay⟩:=Xg Ay;have Jy:=Ay.len
  match us,Jy with
  | [sv],_=>
   obtain⟨a,c,cs,f3,rfl,hs,vU,_⟩:=zzv (K:=3) Ay (λy hy=>by obtain⟨x,_,rfl⟩:=List.mem_map.1 hy;rfl) (by simp;omega);obtain⟨zs,rfl,hz,Za⟩:=rC vU;have OJ:a0.al.length=zs.length:=by rw[hz];simp
   rw[List.length_map,OJ]at hs ⊢;rw[OJ]at hb;have Xz:Go.Proofs.YtndikjghnmhdmaaGreat.Vers w.heap.size w (.slice a zs.length c) zs:=by
    rcases Nat.eq_zero_or_pos zs.length with fY|fY
    ·have:zs=[]:=List.eq_nil_of_length_eq_zero fY;subst this;exact .inl ⟨a,c,rfl,rfl⟩
    ·obtain⟨b,o,ha,uD⟩:=zyr Ay (by rw[List.length_map];omega);rcases hs with⟨h,_⟩|⟨ad,h,_,Bh,_⟩
     ·rw[h]at ha;cases ha
     ·rw[h]at ha;cases ha;subst h;refine .inr ⟨b,o,c,rfl,uD,λj hj=> ?_⟩;obtain⟨w1,w2,w3⟩:=oK zs j hj;refine⟨?_,?_,?_⟩
      ·have:=Bh _ _ w1;rwa[Addr.add_lit]at this
      ·have:=Bh _ _ w2;rwa[Addr.add_lit]at this
      ·have:=Bh _ _ w3;rwa[Addr.add_lit]at this
   have hc:=(callsIn_wide (n:=3)).1 (xK Fence.wide 3 trivial trivial trivial rfl (Av _) ks a c a1 zs hb w Xz);refine hc.mono ?_;rintro e w' ⟨rfl,hB⟩;obtain⟨z1,z2⟩:=rB a1 (Mo zs);rw[dO,List.map_reverse,<-hz]at z1 z2;refine⟨Mod.ig hB (Av _),_,_,rfl,?_,?_⟩
   ·rw[<-z1,dO];exact .str (o5 a1 λz Ib=>Za z (by simpa using Ib)) .nil
   ·rw[<-z2,dO];exact .bool .nil
def bP(a0:List Int):Option (Bool):=
 some (decide ((a0.length:Int)>65536))
def KJ(a0:List Int)(a1:Int):Option (Int):=
 if(decide (a1<(a0.length:Int)))then
  (getI a0 a1).bind λy1=>
  some (IntKind.i64.wrap y1)
 else
  some (Int.tmod (IntKind.i64.wrap ((IntKind.i64.wrap (a1*7))+(a0.length:Int))) 256)
def Fy(a0 a1 a2:Int):Option (Bool):=
 some ((decide (a0>=a1))&&(decide (a0<=a2)))
def L0(a0:Int):Option (Bool):=
 (Fy a0 1 100000).bind λv1=>
 some v1
def ZT(v1:Int)(v3:Bool):Option ((Int) ⊕ Option (Bool)):=
 if(!v3)then
  some (.inr (some false))
 else
  some (.inl (IntKind.i64.wrap (v1+1)))
def Sh(a1:Au)(v1:Int)(y2:UInt8)(v4:Bool)(v5:Int):Option ((Bool × Int) ⊕ Option ((Int) ⊕ Option (Bool))):=
 if(decide (v5<(a1.length:Int)))then
  if v4 then
   some (.inl (true,(IntKind.i64.wrap (v5+1))))
  else
   (getI a1 v5).bind λy6=>
   some (.inl (((y2.toNat:Int)==(y6.toNat:Int)),(IntKind.i64.wrap (v5+1))))
 else
  some (.inr (ZT v1 v4))
def ZX(a0 a1:Au)(v1:Int):Option ((Int) ⊕ Option (Bool)):=
 if(decide (v1<(a0.length:Int)))then
  (getI a0 v1).bind λy2=>
  AG (λs:Bool × Int=>Sh a1 v1 y2 s.1 s.2) ((((decide ((y2.toNat:Int)>=97))&&(decide ((y2.toNat:Int)<=122)))||((decide ((y2.toNat:Int)>=48))&&(decide ((y2.toNat:Int)<=57)))),0)
 else
  some (.inr (some true))
def SG(a0 a1:Au):Option (Bool):=
 AG (λs:Int=>ZX a0 a1 s) 0
def Py(a0:Au):Option (Bool):=
 (Fy (a0.length:Int) 1 12).bind λv1=>
 if v1 then
  (SG a0 ([46,47]:Au)).bind λv2=>
  some v2
 else
  some false
def aA(a0:List (Au)):Option (Bool):=
 some (decide ((a0.length:Int)<=8))
def Pr(a0:List (Au))(v1:Int):Option ((Int) ⊕ Option (Bool)):=
 if(decide (v1<(a0.length:Int)))then
  (getI a0 v1).bind λy2=>
  (Py y2).bind λv3=>
  if(decide (v1>0))then
   if v3 then
    (getI a0 (IntKind.i64.wrap (v1-1))).bind λy4=>
    if(!Op.bytesLess y4 y2)then
     some (.inr (some false))
    else
     some (.inl (IntKind.i64.wrap (v1+1)))
   else
    some (.inr (some false))
  else
   if((!v3)||false)then
    some (.inr (some false))
   else
    some (.inl (IntKind.i64.wrap (v1+1)))
 else
  some (.inr (aA a0))
def VP(a0:List (Au)):Option (Bool):=
 AG (λs:Int=>Pr a0 s) 0
def VM(a0:Au):Option (Bool):=
 if(decide ((a0.length:Int)<=24))then
  (SG a0 ([46,45,44,95]:Au)).bind λv1=>
  some v1
 else
  some false
def Px(a0 a1:Au)(a2:Bool):Option (Bool):=
 (Py a0).bind λv1=>
 if v1 then
  (VM a1).bind λv2=>
  some (v2&&((!a2)||(a1==([]:Au))))
 else
  some false
def ZE(a0:List Ak):Option (Bool):=
 some (decide ((a0.length:Int)<=24))
def ZU(a0:List Ak)(v1:Int):Option ((Int) ⊕ Option (Bool)):=
 if(decide (v1<(a0.length:Int)))then
  (getI a0 v1).bind λy2=>
  (Px y2.ae y2.a7 y2.au).bind λv3=>
  if(decide (v1>0))then
   if v3 then
    (getI a0 (IntKind.i64.wrap (v1-1))).bind λy4=>
    if(!Op.bytesLess y4.ae y2.ae)then
     some (.inr (some false))
    else
     some (.inl (IntKind.i64.wrap (v1+1)))
   else
    some (.inr (some false))
  else
   if((!v3)||false)then
    some (.inr (some false))
   else
    some (.inl (IntKind.i64.wrap (v1+1)))
 else
  some (.inr (ZE a0))
def Vj(a0:List Ak):Option (Bool):=
 AG (λs:Int=>ZU a0 s) 0
def Vm(a0:Bj)(v7:Bool):Option (Bool):=
 if v7 then
  (Fy a0.ay 1 60).bind λv8=>
  if a0.cq then
   if v8 then
    (L0 a0.ab).bind λv9=>
    some (v9||false)
   else
    some false
  else
   some (v8&&(a0.ab==0))
 else
  if(a0.a8==4)then
   if(a0.ay==0)then
    (L0 a0.ab).bind λv10=>
    some (v10&&(!a0.cq))
   else
    some false
  else
   some false
def NN(a0:Bj):Option (Bool):=
 if((a0.a8 !=1)&&((a0.bp !=0)||(decide ((IntKind.i64.wrap ((a0.ao.length:Int)+(a0.af.length:Int)))>0))))then
  some false
 else
  if(a0.a8==1)then
   (Fy a0.ay 1 60).bind λv1=>
   if v1 then
    (L0 a0.ab).bind λv2=>
    if v2 then
     (Fy a0.bp 0 3).bind λv3=>
     if v3 then
      (VP a0.ao).bind λv4=>
      if v4 then
       (Vj a0.af).bind λv5=>
       if v5 then
        (Fy (a0.af.length:Int) 0 8).bind λv6=>
        some ((v6&&(decide ((IntKind.i64.wrap ((a0.ao.length:Int)+(a0.af.length:Int)))>0)))&&(!a0.cq))
       else
        some false
      else
       some false
     else
      some false
    else
     some false
   else
    some false
  else
   if(a0.a8==2)then
    Vm a0 (a0.a8==2)
   else
    Vm a0 (a0.a8==3)
def Pk(a0 v1:List Ag)(v2:Int):Option ((List Ag × Int) ⊕ Option (List Ag)):=
 if(decide (v2<(a0.length:Int)))then
  (getI a0 v2).bind λy3=>
  req (((([]:List B8).length:Int)+((y3.al).length:Int))*32<=140737488355328/\(([]:List B8).length:Int)+((y3.al).length:Int)<=140737488355328)<|
  req ((((v1).length:Int)+(([y3]:List Ag).length:Int))*40<=140737488355328/\((v1).length:Int)+(([y3]:List Ag).length:Int)<=140737488355328)<|
  some (.inl ((v1++ [y3]),(IntKind.i64.wrap (v2+1))))
 else
  some (.inr (some v1))
def SQ(a0:List Ag):Option (List Ag):=
 AG (λs:List Ag × Int=>Pk a0 s.1 s.2) ([],0)
def I9(a0:List (Au)):Option (List (Au)):=
 req (((([]:List (Au)).length:Int)+((a0).length:Int))*16<=140737488355328/\(([]:List (Au)).length:Int)+((a0).length:Int)<=140737488355328)<|
 some a0
def UU(a0:AU):Option (AU):=
 (I9 a0.ao).bind λv1=>
 req (((([]:List Ak).length:Int)+((a0.af).length:Int))*40<=140737488355328/\(([]:List Ak).length:Int)+((a0.af).length:Int)<=140737488355328)<|
 some (⟨a0.ay,a0.ab,a0.bp,v1,a0.af⟩:AU)
def Pv(a0:Am)(v1:List Ag)(v2:Int)(v3:List AU):Option ((Int × List AU) ⊕ Option (Am)):=
 if(decide (v2<(a0.ah.length:Int)))then
  (getI a0.ah v2).bind λy4=>
  (UU y4).bind λv5=>
  req ((((v3).length:Int)+(([v5]:List AU).length:Int))*72<=140737488355328/\((v3).length:Int)+(([v5]:List AU).length:Int)<=140737488355328)<|
  some (.inl ((IntKind.i64.wrap (v2+1)),(v3++ [v5])))
 else
  some (.inr (some (⟨a0.aw,v1,v3,a0.az⟩:Am)))
def VX(a0:Am):Option (Am):=
 (SQ a0.aj).bind λv1=>
 req (((([]:List CH).length:Int)+((a0.az).length:Int))*24<=140737488355328/\(([]:List CH).length:Int)+((a0.az).length:Int)<=140737488355328)<|
 AG (λs:Int × List AU=>Pv a0 v1 s.1 s.2) (0,[])
def ZC(a0:Am)(a1 v1:Int):Option ((Int) ⊕ Option (AU × Bool)):=
 if(decide (v1<(a0.ah.length:Int)))then
  (getI a0.ah v1).bind λy2=>
  if(y2.ay==a1)then
   some (.inr (some (y2,true)))
  else
   some (.inl (IntKind.i64.wrap (v1+1)))
 else
  some (.inr (some ((⟨0,0,0,[],[]⟩:AU),false)))
def KH(a0:Am)(a1:Int):Option (AU × Bool):=
 AG (λs:Int=>ZC a0 a1 s) 0
def ZD(a0:Am)(a1 v1:Int):Option ((Int) ⊕ Option (CH × Bool)):=
 if(decide (v1<(a0.az.length:Int)))then
  (getI a0.az v1).bind λy2=>
  if(y2.ay==a1)then
   some (.inr (some (y2,true)))
  else
   some (.inl (IntKind.i64.wrap (v1+1)))
 else
  some (.inr (some ((⟨0,false,0⟩:CH),false)))
def Vn(a0:Am)(a1:Int):Option (CH × Bool):=
 AG (λs:Int=>ZD a0 a1 s) 0
def UN(a0:List AU)(a1:AU)(v1:Int):Option (List AU):=
 req (0<=v1/\v1<=(a0.length:Int)/\(a0.length:Int)<=(a0.length:Int))<|
 req (((([]:List AU).length:Int)+(((AF a0 v1 (a0.length:Int))).length:Int))*72<=140737488355328/\(([]:List AU).length:Int)+(((AF a0 v1 (a0.length:Int))).length:Int)<=140737488355328)<|
 req (0<=(0:Int)/\(0:Int)<=v1/\v1<=(a0.length:Int))<|
 req (((([]:List AU).length:Int)+(((AF a0 0 v1)).length:Int))*72<=140737488355328/\(([]:List AU).length:Int)+(((AF a0 0 v1)).length:Int)<=140737488355328)<|
 req (((((AF a0 0 v1)).length:Int)+(([a1]:List AU).length:Int))*72<=140737488355328/\(((AF a0 0 v1)).length:Int)+(([a1]:List AU).length:Int)<=140737488355328)<|
 req ((((((AF a0 0 v1)++ [a1])).length:Int)+(((AF a0 v1 (a0.length:Int))).length:Int))*72<=140737488355328/\((((AF a0 0 v1)++ [a1])).length:Int)+(((AF a0 v1 (a0.length:Int))).length:Int)<=140737488355328)<|
 some (((AF a0 0 v1)++ [a1])++(AF a0 v1 (a0.length:Int)))
def Zv(a0:List AU)(a1:AU)(v2:Int):Option ((Int) ⊕ Option (List AU)):=
 if(decide (v2>0))then
  (getI a0 (IntKind.i64.wrap (v2-1))).bind λy3=>
  if(decide (y3.ay>a1.ay))then
   some (.inl (IntKind.i64.wrap (v2-1)))
  else
   some (.inr (UN a0 a1 v2))
 else
  some (.inr (UN a0 a1 v2))
def U2(a0:List AU)(a1:AU):Option (List AU):=
 AG (λs:Int=>Zv a0 a1 s) (a0.length:Int)
def ZG(a0:List Ak)(a1:Au)(v1:Int):Option ((Int) ⊕ Option (Bool)):=
 if(decide (v1<(a0.length:Int)))then
  (getI a0 v1).bind λy2=>
  if(y2.ae==a1)then
   some (.inr (some true))
  else
   some (.inl (IntKind.i64.wrap (v1+1)))
 else
  some (.inr (some false))
def Sp(a0:List Ak)(a1:Au):Option (Bool):=
 AG (λs:Int=>ZG a0 a1 s) 0
def aC(a0:List (Au))(a1:Au)(v1:Int):Option ((Int) ⊕ Option (Bool)):=
 if(decide (v1<(a0.length:Int)))then
  (getI a0 v1).bind λy2=>
  if(y2==a1)then
   some (.inr (some true))
  else
   some (.inl (IntKind.i64.wrap (v1+1)))
 else
  some (.inr (some false))
def VR(a0:List (Au))(a1:Au):Option (Bool):=
 AG (λs:Int=>aC a0 a1 s) 0
def ZV(a0:AU)(a2:List Ak)(v1:Int):Option ((Int) ⊕ Option (Bool)):=
 if(decide (v1<(a2.length:Int)))then
  (getI a2 v1).bind λy2=>
  (Sp a0.af y2.ae).bind λv3=>
  if v3 then
   some (.inr (some false))
  else
   (VR a0.ao y2.ae).bind λv4=>
   if v4 then
    some (.inr (some false))
   else
    some (.inl (IntKind.i64.wrap (v1+1)))
 else
  some (.inr (some true))
def UY(a0:AU)(a2:List Ak):Option (Bool):=
 AG (λs:Int=>ZV a0 a2 s) 0
def ZI(a0:AU)(a1:List (Au))(a2:List Ak)(v5:Int):Option ((Int) ⊕ Option (Bool)):=
 if(decide (v5<(a1.length:Int)))then
  (getI a1 v5).bind λy6=>
  (Sp a0.af y6).bind λv7=>
  if v7 then
   some (.inr (some false))
  else
   some (.inl (IntKind.i64.wrap (v5+1)))
 else
  some (.inr (UY a0 a2))
def Pl(a0:AU)(a1:List (Au))(a2:List Ak):Option (Bool):=
 AG (λs:Int=>ZI a0 a1 a2 s) 0
def Pu(a0:List (Au))(a1:Au)(v1:Int):Option (List (Au)):=
 if(decide (v1>0))then
  (getI a0 (IntKind.i64.wrap (v1-1))).bind λy2=>
  if(y2==a1)then
   some a0
  else
   req (0<=v1/\v1<=(a0.length:Int)/\(a0.length:Int)<=(a0.length:Int))<|
   (I9 (AF a0 v1 (a0.length:Int))).bind λv3=>
   req (0<=(0:Int)/\(0:Int)<=v1/\v1<=(a0.length:Int))<|
   (I9 (AF a0 0 v1)).bind λv4=>
   req ((((v4).length:Int)+(([a1]:List (Au)).length:Int))*16<=140737488355328/\((v4).length:Int)+(([a1]:List (Au)).length:Int)<=140737488355328)<|
   req (((((v4++ [a1])).length:Int)+((v3).length:Int))*16<=140737488355328/\(((v4++ [a1])).length:Int)+((v3).length:Int)<=140737488355328)<|
   some ((v4++ [a1])++v3)
 else
  req (0<=v1/\v1<=(a0.length:Int)/\(a0.length:Int)<=(a0.length:Int))<|
  (I9 (AF a0 v1 (a0.length:Int))).bind λv5=>
  req (0<=(0:Int)/\(0:Int)<=v1/\v1<=(a0.length:Int))<|
  (I9 (AF a0 0 v1)).bind λv6=>
  req ((((v6).length:Int)+(([a1]:List (Au)).length:Int))*16<=140737488355328/\((v6).length:Int)+(([a1]:List (Au)).length:Int)<=140737488355328)<|
  req (((((v6++ [a1])).length:Int)+((v5).length:Int))*16<=140737488355328/\(((v6++ [a1])).length:Int)+((v5).length:Int)<=140737488355328)<|
  some ((v6++ [a1])++v5)
def I8(a0:List (Au))(a1:Au)(v7:Int):Option ((Int) ⊕ Option (List (Au))):=
 if(decide (v7>0))then
  (getI a0 (IntKind.i64.wrap (v7-1))).bind λy8=>
  if(!(Op.bytesLess y8 a1||y8==a1))then
   some (.inl (IntKind.i64.wrap (v7-1)))
  else
   some (.inr (Pu a0 a1 v7))
 else
  some (.inr (Pu a0 a1 v7))
def SA(a0:List (Au))(a1:Au):Option (List (Au)):=
 AG (λs:Int=>I8 a0 a1 s) (a0.length:Int)
def aO(a0:List Ag)(a1:Au)(v1:Int):Option ((Int) ⊕ Option (Int)):=
 if(decide (v1<(a0.length:Int)))then
  (getI a0 v1).bind λy2=>
  if(y2.ae==a1)then
   some (.inr (some v1))
  else
   some (.inl (IntKind.i64.wrap (v1+1)))
 else
  some (.inr (some (-1)))
def SP(a0:List Ag)(a1:Au):Option (Int):=
 AG (λs:Int=>aO a0 a1 s) 0
def UT(v3:List (Au)):Option (Bool):=
 some (decide ((v3.length:Int)<=24))
def OW(a0:Am)(v2:List Ak)(v4:List (Au))(v5:Int):Option ((List (Au) × Int) ⊕ Option (Bool)):=
 if(decide (v5<(v2.length:Int)))then
  (getI v2 v5).bind λy6=>
  (SA v4 y6.ae).bind λv7=>
  (SP a0.aj y6.ae).bind λv8=>
  if(decide (v8>=0))then
   (getI a0.aj v8).bind λy9=>
   if(decide ((y9.al.length:Int)>=16))then
    some (.inr (some false))
   else
    some (.inl (v7,(IntKind.i64.wrap (v5+1))))
  else
   some (.inl (v7,(IntKind.i64.wrap (v5+1))))
 else
  some (.inr (UT v4))
def Z4(a0:Am)(v1:List (Au))(v2:List Ak):Option (Bool):=
 AG (λs:List (Au) × Int=>OW a0 v2 s.1 s.2) (v1,0)
def Pp(a0:Am)(v1:List (Au))(v10:Int)(v11:List Ak):Option ((Int × List Ak) ⊕ Option (Bool)):=
 if(decide (v10<(a0.ah.length:Int)))then
  (getI a0.ah v10).bind λy12=>
  req ((((v11).length:Int)+((y12.af).length:Int))*40<=140737488355328/\((v11).length:Int)+((y12.af).length:Int)<=140737488355328)<|
  some (.inl ((IntKind.i64.wrap (v10+1)),(v11++y12.af)))
 else
  some (.inr (Z4 a0 v1 v11))
def Z1(a0:Am)(a1:List Ak)(v1:List (Au)):Option (Bool):=
 req (((([]:List Ak).length:Int)+((a1).length:Int))*40<=140737488355328/\(([]:List Ak).length:Int)+((a1).length:Int)<=140737488355328)<|
 AG (λs:Int × List Ak=>Pp a0 v1 s.1 s.2) (0,a1)
def Po(a0:Am)(a1:List Ak)(v13:List (Au))(v14:Int):Option ((List (Au) × Int) ⊕ Option (Bool)):=
 if(decide (v14<(a0.aj.length:Int)))then
  (getI a0.aj v14).bind λy15=>
  (SA v13 y15.ae).bind λv16=>
  some (.inl (v16,(IntKind.i64.wrap (v14+1))))
 else
  some (.inr (Z1 a0 a1 v13))
def SF(a0:Am)(a1:List Ak):Option (Bool):=
 AG (λs:List (Au) × Int=>Po a0 a1 s.1 s.2) ([],0)
def UZ(a0:Am)(a2:List Ak):Option (Bool):=
 if(decide ((a0.ah.length:Int)<12))then
  (SF a0 a2).bind λv1=>
  some v1
 else
  some false
def ZP(a0:Am)(a1:List (Au))(a2:List Ak)(v2:Int):Option ((Int) ⊕ Option (Bool)):=
 if(decide (v2<(a0.ah.length:Int)))then
  (getI a0.ah v2).bind λy3=>
  (Pl y3 a1 a2).bind λv4=>
  if(!v4)then
   some (.inr (some false))
  else
   some (.inl (IntKind.i64.wrap (v2+1)))
 else
  some (.inr (UZ a0 a2))
def VA(a0:Am)(a1:List (Au))(a2:List Ak):Option (Bool):=
 AG (λs:Int=>ZP a0 a1 a2 s) 0
def NL(a0:List Ag)(a1:Au):Option (Int):=
 (SP a0 a1).bind λv1=>
 if(decide (v1<0))then
  some 0
 else
  (getI a0 v1).bind λy2=>
  (getI y2.al (IntKind.i64.wrap ((y2.al.length:Int)-1))).bind λy3=>
  some y3.ab
def Z7(a0:Ag):Option (Bool):=
 (Py a0.ae).bind λv1=>
 if v1 then
  (Fy (a0.al.length:Int) 1 16).bind λv2=>
  some v2
 else
  some false
def Nz(a0:Ag)(v3:Int):Option ((Int) ⊕ Option (Bool)):=
 if(decide (v3<(a0.al.length:Int)))then
  (getI a0.al v3).bind λy4=>
  (L0 y4.ab).bind λv5=>
  if v5 then
   (Px a0.ae y4.a7 y4.au).bind λv6=>
   if(decide (v3>0))then
    if v6 then
     (getI a0.al (IntKind.i64.wrap (v3-1))).bind λy7=>
     if(decide (y7.ab>=y4.ab))then
      some (.inr (some false))
     else
      some (.inl (IntKind.i64.wrap (v3+1)))
    else
     some (.inr (some false))
   else
    if((!v6)||false)then
     some (.inr (some false))
    else
     some (.inl (IntKind.i64.wrap (v3+1)))
  else
   some (.inr (some false))
 else
  some (.inr (Z7 a0))
def VZ(a0:Ag):Option (Bool):=
 AG (λs:Int=>Nz a0 s) 0
def aF(a0:List Ag):Option (Bool):=
 some (decide ((a0.length:Int)<=24))
def ND(a0:List Ag)(v1:Int):Option ((Int) ⊕ Option (Bool)):=
 if(decide (v1<(a0.length:Int)))then
  (getI a0 v1).bind λy2=>
  (VZ y2).bind λv3=>
  if(decide (v1>0))then
   if v3 then
    (getI a0 (IntKind.i64.wrap (v1-1))).bind λy4=>
    if(!Op.bytesLess y4.ae y2.ae)then
     some (.inr (some false))
    else
     some (.inl (IntKind.i64.wrap (v1+1)))
   else
    some (.inr (some false))
  else
   if((!v3)||false)then
    some (.inr (some false))
   else
    some (.inl (IntKind.i64.wrap (v1+1)))
 else
  some (.inr (aF a0))
def SB(a0:List Ag):Option (Bool):=
 AG (λs:Int=>ND a0 s) 0
def Vi(v2:List Ag):Option (List Ag × Bool):=
 (SB v2).bind λv3=>
 some (v2,v3)
def Ph(a2 v4:Int)(v5:List Ag)(y6:Ak)(v7:Int):Option ((Int × List Ag) ⊕ Option (List Ag × Bool)):=
 if(decide (v7>0))then
  (getI v5 (IntKind.i64.wrap (v7-1))).bind λy8=>
  if(y8.ae==y6.ae)then
   (NL v5 y6.ae).bind λv9=>
   if(decide (v9>=a2))then
    some (.inr (some ([],false)))
   else
    req ((((y8.al).length:Int)+(([(⟨a2,y6.a7,y6.au⟩:B8)]:List B8).length:Int))*32<=140737488355328/\((y8.al).length:Int)+(([(⟨a2,y6.a7,y6.au⟩:B8)]:List B8).length:Int)<=140737488355328)<|
    some (.inl ((IntKind.i64.wrap (v4+1)),(v5.set ((IntKind.i64.wrap (v7-1))).toNat {y8 with al:=(y8.al++ [(⟨a2,y6.a7,y6.au⟩:B8)])})))
  else
   req (0<=v7/\v7<=(v5.length:Int)/\(v5.length:Int)<=(v5.length:Int))<|
   req (0<=v7/\v7<=(v5.length:Int)/\(v5.length:Int)<=(v5.length:Int))<|
   req (((([]:List Ag).length:Int)+(((AF v5 v7 (v5.length:Int))).length:Int))*40<=140737488355328/\(([]:List Ag).length:Int)+(((AF v5 v7 (v5.length:Int))).length:Int)<=140737488355328)<|
   req (0<=(0:Int)/\(0:Int)<=v7/\v7<=(v5.length:Int))<|
   req (((([]:List Ag).length:Int)+(((AF v5 0 v7)).length:Int))*40<=140737488355328/\(([]:List Ag).length:Int)+(((AF v5 0 v7)).length:Int)<=140737488355328)<|
   req (((((AF v5 0 v7)).length:Int)+(([(⟨y6.ae,[(⟨a2,y6.a7,y6.au⟩:B8)]⟩:Ag)]:List Ag).length:Int))*40<=140737488355328/\(((AF v5 0 v7)).length:Int)+(([(⟨y6.ae,[(⟨a2,y6.a7,y6.au⟩:B8)]⟩:Ag)]:List Ag).length:Int)<=140737488355328)<|
   req ((((((AF v5 0 v7)++ [(⟨y6.ae,[(⟨a2,y6.a7,y6.au⟩:B8)]⟩:Ag)])).length:Int)+(((AF v5 v7 (v5.length:Int))).length:Int))*40<=140737488355328/\((((AF v5 0 v7)++ [(⟨y6.ae,[(⟨a2,y6.a7,y6.au⟩:B8)]⟩:Ag)])).length:Int)+(((AF v5 v7 (v5.length:Int))).length:Int)<=140737488355328)<|
   some (.inl ((IntKind.i64.wrap (v4+1)),(((AF v5 0 v7)++ [(⟨y6.ae,[(⟨a2,y6.a7,y6.au⟩:B8)]⟩:Ag)])++(AF v5 v7 (v5.length:Int)))))
 else
  req (0<=v7/\v7<=(v5.length:Int)/\(v5.length:Int)<=(v5.length:Int))<|
  req (0<=v7/\v7<=(v5.length:Int)/\(v5.length:Int)<=(v5.length:Int))<|
  req (((([]:List Ag).length:Int)+(((AF v5 v7 (v5.length:Int))).length:Int))*40<=140737488355328/\(([]:List Ag).length:Int)+(((AF v5 v7 (v5.length:Int))).length:Int)<=140737488355328)<|
  req (0<=(0:Int)/\(0:Int)<=v7/\v7<=(v5.length:Int))<|
  req (((([]:List Ag).length:Int)+(((AF v5 0 v7)).length:Int))*40<=140737488355328/\(([]:List Ag).length:Int)+(((AF v5 0 v7)).length:Int)<=140737488355328)<|
  req (((((AF v5 0 v7)).length:Int)+(([(⟨y6.ae,[(⟨a2,y6.a7,y6.au⟩:B8)]⟩:Ag)]:List Ag).length:Int))*40<=140737488355328/\(((AF v5 0 v7)).length:Int)+(([(⟨y6.ae,[(⟨a2,y6.a7,y6.au⟩:B8)]⟩:Ag)]:List Ag).length:Int)<=140737488355328)<|
  req ((((((AF v5 0 v7)++ [(⟨y6.ae,[(⟨a2,y6.a7,y6.au⟩:B8)]⟩:Ag)])).length:Int)+(((AF v5 v7 (v5.length:Int))).length:Int))*40<=140737488355328/\((((AF v5 0 v7)++ [(⟨y6.ae,[(⟨a2,y6.a7,y6.au⟩:B8)]⟩:Ag)])).length:Int)+(((AF v5 v7 (v5.length:Int))).length:Int)<=140737488355328)<|
  some (.inl ((IntKind.i64.wrap (v4+1)),(((AF v5 0 v7)++ [(⟨y6.ae,[(⟨a2,y6.a7,y6.au⟩:B8)]⟩:Ag)])++(AF v5 v7 (v5.length:Int)))))
def NJ(a2 v4:Int)(v5:List Ag)(y6:Ak)(v10:Int):Option ((Int) ⊕ Option ((Int × List Ag) ⊕ Option (List Ag × Bool))):=
 if(decide (v10>0))then
  (getI v5 (IntKind.i64.wrap (v10-1))).bind λy11=>
  if(!(Op.bytesLess y11.ae y6.ae||y11.ae==y6.ae))then
   some (.inl (IntKind.i64.wrap (v10-1)))
  else
   some (.inr (Ph a2 v4 v5 y6 v10))
 else
  some (.inr (Ph a2 v4 v5 y6 v10))
def Pf(a1:List Ak)(a2 v4:Int)(v5:List Ag):Option ((Int × List Ag) ⊕ Option (List Ag × Bool)):=
 if(decide (v4<(a1.length:Int)))then
  (getI a1 v4).bind λy6=>
  AG (λs:Int=>NJ a2 v4 v5 y6 s) (v5.length:Int)
 else
  some (.inr (Vi v5))
def VI(a0:List Ag)(a1:List Ak)(a2:Int):Option (List Ag × Bool):=
 (SQ a0).bind λv1=>
 AG (λs:Int × List Ag=>Pf a1 a2 s.1 s.2) (0,v1)
def L1(a0 a1:Int):Option (Int):=
 if(decide (a0>a1))then
  some a0
 else
  some a1
def O3(a0:List AU)(a1:Int)(v1:List AU)(v2:Int):Option ((List AU × Int) ⊕ Option (List AU)):=
 if(decide (v2<(a0.length:Int)))then
  (getI a0 v2).bind λy3=>
  if(y3.ay !=a1)then
   req ((((v1).length:Int)+(([y3]:List AU).length:Int))*72<=140737488355328/\((v1).length:Int)+(([y3]:List AU).length:Int)<=140737488355328)<|
   some (.inl ((v1++ [y3]),(IntKind.i64.wrap (v2+1))))
  else
   some (.inl (v1,(IntKind.i64.wrap (v2+1))))
 else
  some (.inr (some v1))
def SH(a0:List AU)(a1:Int):Option (List AU):=
 AG (λs:List AU × Int=>O3 a0 a1 s.1 s.2) ([],0)
def UO(a0:List CH)(a1:CH)(v1:Int):Option (List CH):=
 req (0<=v1/\v1<=(a0.length:Int)/\(a0.length:Int)<=(a0.length:Int))<|
 req (((([]:List CH).length:Int)+(((AF a0 v1 (a0.length:Int))).length:Int))*24<=140737488355328/\(([]:List CH).length:Int)+(((AF a0 v1 (a0.length:Int))).length:Int)<=140737488355328)<|
 req (0<=(0:Int)/\(0:Int)<=v1/\v1<=(a0.length:Int))<|
 req (((([]:List CH).length:Int)+(((AF a0 0 v1)).length:Int))*24<=140737488355328/\(([]:List CH).length:Int)+(((AF a0 0 v1)).length:Int)<=140737488355328)<|
 req (((((AF a0 0 v1)).length:Int)+(([a1]:List CH).length:Int))*24<=140737488355328/\(((AF a0 0 v1)).length:Int)+(([a1]:List CH).length:Int)<=140737488355328)<|
 req ((((((AF a0 0 v1)++ [a1])).length:Int)+(((AF a0 v1 (a0.length:Int))).length:Int))*24<=140737488355328/\((((AF a0 0 v1)++ [a1])).length:Int)+(((AF a0 v1 (a0.length:Int))).length:Int)<=140737488355328)<|
 some (((AF a0 0 v1)++ [a1])++(AF a0 v1 (a0.length:Int)))
def Zw(a0:List CH)(a1:CH)(v2:Int):Option ((Int) ⊕ Option (List CH)):=
 if(decide (v2>0))then
  (getI a0 (IntKind.i64.wrap (v2-1))).bind λy3=>
  if(decide (y3.ay>a1.ay))then
   some (.inl (IntKind.i64.wrap (v2-1)))
  else
   some (.inr (UO a0 a1 v2))
 else
  some (.inr (UO a0 a1 v2))
def Sg(a0:List CH)(a1:CH):Option (List CH):=
 AG (λs:Int=>Zw a0 a1 s) (a0.length:Int)
def Vf(a0:Am)(a1:Bj):Option (Am × Bool):=
 (VX a0).bind λv1=>
 (KH a0 a1.ay).bind λv2=>
 (Vn a0 a1.ay).bind λv3=>
 if(a1.a8==4)then
  some ((⟨a1.ab,v1.aj,v1.ah,v1.az⟩:Am),(decide (a1.ab>a0.aw)))
 else
  if v3.2 then
   some (v1,false)
  else
   if(a1.a8==1)then
    (I9 a1.ao).bind λv4=>
    req (((([]:List Ak).length:Int)+((a1.af).length:Int))*40<=140737488355328/\(([]:List Ak).length:Int)+((a1.af).length:Int)<=140737488355328)<|
    (U2 v1.ah (⟨a1.ay,a1.ab,a1.bp,v4,a1.af⟩:AU)).bind λv5=>
    if v2.2 then
     some ((⟨a1.ab,v1.aj,v5,v1.az⟩:Am),false)
    else
     if(decide (a1.ab>a0.aw))then
      (VA a0 a1.ao a1.af).bind λv6=>
      some ((⟨a1.ab,v1.aj,v5,v1.az⟩:Am),v6)
     else
      some ((⟨a1.ab,v1.aj,v5,v1.az⟩:Am),false)
   else
    if a1.cq then
     if((!v2.2)||(decide (v2.1.ab>a1.ab)))then
      some (v1,false)
     else
      (VI a0.aj v2.1.af a1.ab).bind λv7=>
      if(!v7.2)then
       some (v1,false)
      else
       (L1 a0.aw a1.ab).bind λv8=>
       (SH v1.ah a1.ay).bind λv9=>
       (Sg v1.az (⟨a1.ay,a1.cq,a1.ab⟩:CH)).bind λv10=>
       some ((⟨v8,v7.1,v9,v10⟩:Am),true)
    else
     (SH v1.ah a1.ay).bind λv11=>
     (Sg v1.az (⟨a1.ay,a1.cq,a1.ab⟩:CH)).bind λv12=>
     some ((⟨v1.aw,v1.aj,v11,v12⟩:Am),true)
def Pj(a0:List Bj)(v1:List Bool)(v2 v3:Int)(v4:List Ag)(v5:List AU)(v6:List CH):Option ((List Bool × Int × Int × List Ag × List AU × List CH) ⊕ Option (Am × List Bool)):=
 if(decide (v2<(a0.length:Int)))then
  (getI a0 v2).bind λy7=>
  (Vf (⟨v3,v4,v5,v6⟩:Am) y7).bind λv8=>
  if v8.2 then
   req ((((v1).length:Int)+(([v8.2]:List Bool).length:Int))*1<=140737488355328/\((v1).length:Int)+(([v8.2]:List Bool).length:Int)<=140737488355328)<|
   some (.inl ((v1++ [v8.2]),(IntKind.i64.wrap (v2+1)),v8.1.aw,v8.1.aj,v8.1.ah,v8.1.az))
  else
   req ((((v1).length:Int)+(([v8.2]:List Bool).length:Int))*1<=140737488355328/\((v1).length:Int)+(([v8.2]:List Bool).length:Int)<=140737488355328)<|
   some (.inl ((v1++ [v8.2]),(IntKind.i64.wrap (v2+1)),v3,v4,v5,v6))
 else
  some (.inr (some ((⟨v3,v4,v5,v6⟩:Am),v1)))
def V4(a0:List Bj):Option (Am × List Bool):=
 AG (λs:List Bool × Int × Int × List Ag × List AU × List CH=>Pj a0 s.1 s.2.1 s.2.2.1 s.2.2.2.1 s.2.2.2.2.1 s.2.2.2.2.2) ([],0,0,[],[],[])
def U0(a0:List Bj):Option (Am × List Bool × Bool):=
 if(decide ((a0.length:Int)>60))then
  some ((⟨0,[],[],[]⟩:Am),[],false)
 else
  (V4 a0).bind λv1=>
  some (v1.1,v1.2,true)
def NH(a0:List Bj)(v2:Int):Option ((Int) ⊕ Option (Am × List Bool × Bool)):=
 if(decide (v2<(a0.length:Int)))then
  (getI a0 v2).bind λy3=>
  (NN y3).bind λv4=>
  if(!v4)then
   some (.inr (some ((⟨0,[],[],[]⟩:Am),[],false)))
  else
   some (.inl (IntKind.i64.wrap (v2+1)))
 else
  some (.inr (U0 a0))
def Vv(a0:List Bj):Option (Am × List Bool × Bool):=
 AG (λs:Int=>NH a0 s) 0
def jR(v1:Int)(v2:List Am)(v3:List Bj):Option ((Int × List Am) ⊕ Option (List Am)):=
 (Vv v3).bind λv4=>
 req ((((v2).length:Int)+(([v4.1]:List Am).length:Int))*80<=140737488355328/\((v2).length:Int)+(([v4.1]:List Am).length:Int)<=140737488355328)<|
 some (.inl ((IntKind.i64.wrap (v1+1)),(v2++ [v4.1])))
def U1(a0:List Int)(v1 v5:Int)(v6 v8:Int)(v11:List Bj):Option ((Int × Int × List Bj) ⊕ Option ((Int × List Am) ⊕ Option (List Am))):=
 (KJ a0 (IntKind.i64.wrap ((IntKind.i64.wrap ((IntKind.i64.wrap ((5:Int)*v6))+v1))+2))).bind λv12=>
 if(((Int.tmod v12 3)==0)&&(decide (v6>0)))then
  req ((((v11).length:Int)+(([(⟨2,v6,0,0,[],[],false⟩:Bj)]:List Bj).length:Int))*88<=140737488355328/\((v11).length:Int)+(([(⟨2,v6,0,0,[],[],false⟩:Bj)]:List Bj).length:Int)<=140737488355328)<|
  some (.inl ((IntKind.i64.wrap ((IntKind.i64.wrap ((IntKind.i64.wrap (v5+1))+(Int.tmod v8 4)))+3)),(IntKind.i64.wrap (v6+1)),(v11++ [(⟨2,v6,0,0,[],[],false⟩:Bj)])))
 else
  some (.inl ((IntKind.i64.wrap ((IntKind.i64.wrap ((IntKind.i64.wrap (v5+1))+(Int.tmod v8 4)))+3)),(IntKind.i64.wrap (v6+1)),v11))
def U3(a0:List Int)(a1 v1:Int)(v2:List Am)(v5 v6:Int)(v7:List Bj):Option ((Int × Int × List Bj) ⊕ Option ((Int × List Am) ⊕ Option (List Am))):=
 if(decide (v6<a1))then
  (KJ a0 (IntKind.i64.wrap ((IntKind.i64.wrap ((5:Int)*v6))+v1))).bind λv8=>
  (KJ a0 (IntKind.i64.wrap ((IntKind.i64.wrap ((IntKind.i64.wrap ((5:Int)*v6))+v1))+1))).bind λv9=>
  (getI [([97]:Au),([98]:Au),([99]:Au)] (Int.tmod v9 3)).bind λy10=>
  req ((((v7).length:Int)+(([(⟨1,(IntKind.i64.wrap (v6+1)),(IntKind.i64.wrap ((IntKind.i64.wrap (v5+1))+(Int.tmod v8 4))),0,[],[(⟨y10,([49]:Au),false⟩:Ak)],false⟩:Bj)]:List Bj).length:Int))*88<=140737488355328/\((v7).length:Int)+(([(⟨1,(IntKind.i64.wrap (v6+1)),(IntKind.i64.wrap ((IntKind.i64.wrap (v5+1))+(Int.tmod v8 4))),0,[],[(⟨y10,([49]:Au),false⟩:Ak)],false⟩:Bj)]:List Bj).length:Int)<=140737488355328)<|
  (KJ a0 (IntKind.i64.wrap ((IntKind.i64.wrap ((IntKind.i64.wrap ((5:Int)*v6))+v1))+2))).bind λv13=>
  if((decide ((Int.tmod v13 3)>0))&&(decide (v6>0)))then
   (KJ a0 (IntKind.i64.wrap ((IntKind.i64.wrap ((IntKind.i64.wrap ((5:Int)*v6))+v1))+3))).bind λv14=>
   req (((((v7++ [(⟨1,(IntKind.i64.wrap (v6+1)),(IntKind.i64.wrap ((IntKind.i64.wrap (v5+1))+(Int.tmod v8 4))),0,[],[(⟨y10,([49]:Au),false⟩:Ak)],false⟩:Bj)])).length:Int)+(([(⟨2,v6,(IntKind.i64.wrap ((IntKind.i64.wrap ((IntKind.i64.wrap (v5+1))+(Int.tmod v8 4)))+(Int.tmod v14 3))),0,[],[],true⟩:Bj)]:List Bj).length:Int))*88<=140737488355328/\(((v7++ [(⟨1,(IntKind.i64.wrap (v6+1)),(IntKind.i64.wrap ((IntKind.i64.wrap (v5+1))+(Int.tmod v8 4))),0,[],[(⟨y10,([49]:Au),false⟩:Ak)],false⟩:Bj)])).length:Int)+(([(⟨2,v6,(IntKind.i64.wrap ((IntKind.i64.wrap ((IntKind.i64.wrap (v5+1))+(Int.tmod v8 4)))+(Int.tmod v14 3))),0,[],[],true⟩:Bj)]:List Bj).length:Int)<=140737488355328)<|
   U1 a0 v1 v5 v6 v8 ((v7++ [(⟨1,(IntKind.i64.wrap (v6+1)),(IntKind.i64.wrap ((IntKind.i64.wrap (v5+1))+(Int.tmod v8 4))),0,[],[(⟨y10,([49]:Au),false⟩:Ak)],false⟩:Bj)])++ [(⟨2,v6,(IntKind.i64.wrap ((IntKind.i64.wrap ((IntKind.i64.wrap (v5+1))+(Int.tmod v8 4)))+(Int.tmod v14 3))),0,[],[],true⟩:Bj)])
  else
   U1 a0 v1 v5 v6 v8 (v7++ [(⟨1,(IntKind.i64.wrap (v6+1)),(IntKind.i64.wrap ((IntKind.i64.wrap (v5+1))+(Int.tmod v8 4))),0,[],[(⟨y10,([49]:Au),false⟩:Ak)],false⟩:Bj)])
 else
  some (.inr (jR v1 v2 v7))
def JD(a0:List Int)(a1 v1:Int)(v2:List Am):Option ((Int × List Am) ⊕ Option (List Am)):=
 if(decide (v1<2))then
  AG (λs:Int × Int × List Bj=>U3 a0 a1 v1 v2 s.1 s.2.1 s.2.2) (1,0,[])
 else
  some (.inr (some v2))
def Vx(a0:List Int)(a1:Int):Option (List Am):=
 AG (λs:Int × List Am=>JD a0 a1 s.1 s.2) (0,[])
def Ie(a0 a1 a2:Int):Option (Bool):=
 some ((decide (a0>=a1))&&(decide (a0<=a2)))
def Ic(a0:Int):Option (Bool):=
 (Ie a0 0 100000).bind λv1=>
 some v1
def JE(a0:Int):Option (Bool):=
 (Ie a0 1 100000).bind λv1=>
 some v1
def Zy(a0:Int):Option (Bool):=
 some (((decide (a0>=97))&&(decide (a0<=122)))||((decide (a0>=48))&&(decide (a0<=57))))
def ZB(a0:Au)(a1:Int):Option (Int):=
 (UK a0 a1).bind λv1=>
 some v1
def ZF(a0 a1:Au)(v1:Int):Option ((Int) ⊕ Option (Bool)):=
 if(decide (v1<(a0.length:Int)))then
  (getI a0 v1).bind λy2=>
  (Zy (y2.toNat:Int)).bind λv3=>
  if v3 then
   some (.inl (IntKind.i64.wrap (v1+1)))
  else
   (ZB a1 (y2.toNat:Int)).bind λv4=>
   if(decide (v4<0))then
    some (.inr (some false))
   else
    some (.inl (IntKind.i64.wrap (v1+1)))
 else
  some (.inr (some true))
def Sq(a0 a1:Au):Option (Bool):=
 AG (λs:Int=>ZF a0 a1 s) 0
def Vu(a0:Au):Option (Bool):=
 if(decide ((a0.length:Int)<=24))then
  (Sq a0 ([46,45,44,95]:Au)).bind λv1=>
  some v1
 else
  some false
def Pm(a0:Au)(a1:Bool):Option (Bool):=
 (Vu a0).bind λv1=>
 some (v1&&(!(a1&&(a0 !=([]:Au)))))
def Z8(a0:Ag):Option (Bool):=
 (Ie (a0.al.length:Int) 1 16).bind λv1=>
 some v1
def Nw(a0:Ag)(v2:Int):Option ((Int) ⊕ Option (Bool)):=
 if(decide (v2<(a0.al.length:Int)))then
  (getI a0.al v2).bind λy3=>
  (JE y3.ab).bind λv4=>
  if v4 then
   (Pm y3.a7 y3.au).bind λv5=>
   if(decide (v2>0))then
    if v5 then
     (getI a0.al (IntKind.i64.wrap (v2-1))).bind λy6=>
     if(decide (y3.ab<=y6.ab))then
      some (.inr (some false))
     else
      some (.inl (IntKind.i64.wrap (v2+1)))
    else
     some (.inr (some false))
   else
    if((!v5)||false)then
     some (.inr (some false))
    else
     some (.inl (IntKind.i64.wrap (v2+1)))
  else
   some (.inr (some false))
 else
  some (.inr (Z8 a0))
def V0(a0:Ag):Option (Bool):=
 AG (λs:Int=>Nw a0 s) 0
def Sk(a0:Au):Option (Bool):=
 (Ie (a0.length:Int) 1 12).bind λv1=>
 if v1 then
  (Sq a0 ([46,47]:Au)).bind λv2=>
  some v2
 else
  some false
def ZL(a0:List (Au))(v1:Int):Option ((Int) ⊕ Option (Bool)):=
 if(decide (v1<(a0.length:Int)))then
  (getI a0 v1).bind λy2=>
  (Sk y2).bind λv3=>
  if(decide (v1>0))then
   if v3 then
    (getI a0 (IntKind.i64.wrap (v1-1))).bind λy4=>
    if(Op.bytesLess y2 y4||y2==y4)then
     some (.inr (some false))
    else
     some (.inl (IntKind.i64.wrap (v1+1)))
   else
    some (.inr (some false))
  else
   if((!v3)||false)then
    some (.inr (some false))
   else
    some (.inl (IntKind.i64.wrap (v1+1)))
 else
  some (.inr (some true))
def NC(a0:List (Au)):Option (Bool):=
 AG (λs:Int=>ZL a0 s) 0
def U7(a0:List Ag)(v1:List (Au)):Option (Bool):=
 if(decide ((a0.length:Int)<=24))then
  (NC v1).bind λv2=>
  some v2
 else
  some false
def Sj(a0:List Ag)(v3:Int)(v4:List (Au)):Option ((Int × List (Au)) ⊕ Option (Bool)):=
 if(decide (v3<(a0.length:Int)))then
  (getI a0 v3).bind λy5=>
  (V0 y5).bind λv6=>
  if(!v6)then
   some (.inr (some false))
  else
   req ((((v4).length:Int)+(([y5.ae]:List (Au)).length:Int))*16<=140737488355328/\((v4).length:Int)+(([y5.ae]:List (Au)).length:Int)<=140737488355328)<|
   some (.inl ((IntKind.i64.wrap (v3+1)),(v4++ [y5.ae])))
 else
  some (.inr (U7 a0 v4))
def Sz(a0:List Ag):Option (Bool):=
 AG (λs:Int × List (Au)=>Sj a0 s.1 s.2) (0,[])
def ZS(a0:AU):Option (Bj):=
 some (⟨1,a0.ay,a0.ab,a0.bp,a0.ao,a0.af,false⟩:Bj)
def NK(a0:Int):Option (Bool):=
 (Ie a0 1 60).bind λv1=>
 some v1
def O5(a0:List Ak)(v1:Int)(v2:List (Au)):Option ((Int × List (Au)) ⊕ Option (List (Au))):=
 if(decide (v1<(a0.length:Int)))then
  (getI a0 v1).bind λy3=>
  req ((((v2).length:Int)+(([y3.ae]:List (Au)).length:Int))*16<=140737488355328/\((v2).length:Int)+(([y3.ae]:List (Au)).length:Int)<=140737488355328)<|
  some (.inl ((IntKind.i64.wrap (v1+1)),(v2++ [y3.ae])))
 else
  some (.inr (some v2))
def Vo(a0:List Ak):Option (List (Au)):=
 AG (λs:Int × List (Au)=>O5 a0 s.1 s.2) (0,[])
def U6(a0:Ak):Option (Bool):=
 (Pm a0.a7 a0.au).bind λv1=>
 some (!v1)
def Se(a0:List Ak):Option (Bool):=
 if(decide ((a0.length:Int)<=24))then
  (Vo a0).bind λv1=>
  (NC v1).bind λv2=>
  if v2 then
   (EJ a0 (λy0_=>U6 y0_)).bind λv3=>
   some (!v3)
  else
   some false
 else
  some false
def U4(a0:Bj)(v6:Bool):Option (Bool):=
 if v6 then
  if(a0.bp==0)then
   if((a0.ao.length:Int)==0)then
    if((a0.af.length:Int)==0)then
     (NK a0.ay).bind λv7=>
     if a0.cq then
      if v7 then
       (JE a0.ab).bind λv8=>
       some (v8||false)
      else
       some false
     else
      some (v7&&(a0.ab==0))
    else
     some false
   else
    some false
  else
   some false
 else
  if(a0.a8==4)then
   if(a0.bp==0)then
    if((a0.ao.length:Int)==0)then
     if((a0.af.length:Int)==0)then
      if(a0.ay==0)then
       (JE a0.ab).bind λv9=>
       some (v9&&(!a0.cq))
      else
       some false
     else
      some false
    else
     some false
   else
    some false
  else
   some false
def Vs(a0:Bj):Option (Bool):=
 if(a0.a8==1)then
  (NK a0.ay).bind λv1=>
  if v1 then
   (JE a0.ab).bind λv2=>
   if v2 then
    (Ie a0.bp 0 3).bind λv3=>
    if v3 then
     if(decide ((a0.ao.length:Int)<=8))then
      (NC a0.ao).bind λv4=>
      if v4 then
       if(decide ((a0.af.length:Int)<=8))then
        (Se a0.af).bind λv5=>
        some ((v5&&(decide ((IntKind.i64.wrap ((a0.ao.length:Int)+(a0.af.length:Int)))>0)))&&(!a0.cq))
       else
        some false
      else
       some false
     else
      some false
    else
     some false
   else
    some false
  else
   some false
 else
  if(a0.a8==2)then
   U4 a0 (a0.a8==2)
  else
   U4 a0 (a0.a8==3)
def Zs(a0:List Ak)(a1:Au)(a2:Ak->(Au)->Option Int)(v1:Int):Option (Int × Bool):=
 if(decide (v1<(a0.length:Int)))then
  (getI a0 v1).bind λy2=>
  (a2 y2 a1).bind λv3=>
  some (v1,(v3==0))
 else
  some (v1,false)
def OT(a0:List Ak)(a1:Au)(a2:Ak->(Au)->Option Int)(v4 v5:Int):Option ((Int × Int) ⊕ Option (Int × Bool)):=
 if(decide (v4<v5))then
  (getI a0 (IntKind.i64.wrap (Int.fdiv (IntKind.u64.wrap (IntKind.i64.wrap (v4+v5))) (2^(min ((1:Int)).toNat (IntKind.bits .u64)))))).bind λy6=>
  (a2 y6 a1).bind λv7=>
  if(decide (v7<0))then
   some (.inl ((IntKind.i64.wrap ((IntKind.i64.wrap (Int.fdiv (IntKind.u64.wrap (IntKind.i64.wrap (v4+v5))) (2^(min ((1:Int)).toNat (IntKind.bits .u64)))))+1)),v5))
  else
   some (.inl (v4,(IntKind.i64.wrap (Int.fdiv (IntKind.u64.wrap (IntKind.i64.wrap (v4+v5))) (2^(min ((1:Int)).toNat (IntKind.bits .u64)))))))
 else
  some (.inr (Zs a0 a1 a2 v4))
def Zp(a0:List Ak)(a1:Au)(a2:Ak->(Au)->Option Int):Option (Int × Bool):=
 AG (λs:Int × Int=>OT a0 a1 a2 s.1 s.2) (0,(a0.length:Int))
def Si(a0:Au):Option (Bool):=
 some (a0 !=a0)
def O9(a0 a1:Au):Option (Int):=
 (Si a0).bind λv1=>
 (Si a1).bind λv2=>
 if v1 then
  if v2 then
   some 0
  else
   some (-1)
 else
  if v2 then
   some 1
  else
   if(Op.bytesLess a0 a1)then
    some (-1)
   else
    if(!(Op.bytesLess a0 a1||a0==a1))then
     some 1
    else
     some 0
def O8(a0:Ak)(a1:Au):Option (Int):=
 (O9 a0.ae a1).bind λv1=>
 some v1
def Nx(a0:List Ak)(a1:Au):Option (Int × Bool):=
 (Zp a0 a1 (λy0_ y1_=>O8 y0_ y1_)).bind λv1=>
 some (v1.1,v1.2)
def Zt(a0:List (Au))(a1:Au)(v1:Int):Option ((Int) ⊕ Option (Int)):=
 if(decide (v1<(a0.length:Int)))then
  (getI a0 v1).bind λy2=>
  if(a1==y2)then
   some (.inr (some v1))
  else
   some (.inl (IntKind.i64.wrap (v1+1)))
 else
  some (.inr (some (-1)))
def UF(a0:List (Au))(a1:Au):Option (Int):=
 AG (λs:Int=>Zt a0 a1 s) 0
def UI(a0:List (Au))(a1:Au):Option (Bool):=
 (UF a0 a1).bind λv1=>
 some (decide (v1>=0))
def aB(a0:Ak)(a1:List Ak)(a2:List (Au)):Option (Bool):=
 (Nx a1 a0.ae).bind λv1=>
 if v1.2 then
  some true
 else
  (UI a2 a0.ae).bind λv2=>
  some v2
def SJ(a0:List Ak)(a1:List (Au))(a2:List Ak):Option (Bool):=
 (EJ a0 (λy0_=>aB y0_ a2 a1)).bind λv1=>
 some v1
def aS(a0 a1:AU):Option (Bool):=
 (SJ a0.af a1.ao a1.af).bind λv1=>
 if v1 then
  some true
 else
  (SJ a1.af a0.ao a0.af).bind λv2=>
  some v2
def Sb(a0 a1:AU):Option (Bool):=
 (aS a1 a0).bind λv1=>
 some v1
def Zo(a0:List Ag)(a1:Au)(a2:Ag->(Au)->Option Int)(v1:Int):Option (Int × Bool):=
 if(decide (v1<(a0.length:Int)))then
  (getI a0 v1).bind λy2=>
  (a2 y2 a1).bind λv3=>
  some (v1,(v3==0))
 else
  some (v1,false)
def OU(a0:List Ag)(a1:Au)(a2:Ag->(Au)->Option Int)(v4 v5:Int):Option ((Int × Int) ⊕ Option (Int × Bool)):=
 if(decide (v4<v5))then
  (getI a0 (IntKind.i64.wrap (Int.fdiv (IntKind.u64.wrap (IntKind.i64.wrap (v4+v5))) (2^(min ((1:Int)).toNat (IntKind.bits .u64)))))).bind λy6=>
  (a2 y6 a1).bind λv7=>
  if(decide (v7<0))then
   some (.inl ((IntKind.i64.wrap ((IntKind.i64.wrap (Int.fdiv (IntKind.u64.wrap (IntKind.i64.wrap (v4+v5))) (2^(min ((1:Int)).toNat (IntKind.bits .u64)))))+1)),v5))
  else
   some (.inl (v4,(IntKind.i64.wrap (Int.fdiv (IntKind.u64.wrap (IntKind.i64.wrap (v4+v5))) (2^(min ((1:Int)).toNat (IntKind.bits .u64)))))))
 else
  some (.inr (Zo a0 a1 a2 v4))
def UL(a0:List Ag)(a1:Au)(a2:Ag->(Au)->Option Int):Option (Int × Bool):=
 AG (λs:Int × Int=>OU a0 a1 a2 s.1 s.2) (0,(a0.length:Int))
def Nv(a0:Ag)(a1:Au):Option (Int):=
 (O9 a0.ae a1).bind λv1=>
 some v1
def Sr(a0:List Ag)(a1:Au):Option (Int × Bool):=
 (UL a0 a1 (λy0_ y1_=>Nv y0_ y1_)).bind λv1=>
 some (v1.1,v1.2)
def Sm(a0:List Ag)(a1:Au):Option (Int):=
 (Sr a0 a1).bind λv1=>
 if(!v1.2)then
  some 0
 else
  (getI a0 v1.1).bind λy2=>
  (getI y2.al (IntKind.i64.wrap ((y2.al.length:Int)-1))).bind λy3=>
  some y3.ab
def Sa(a0:Ak)(a1:AU)(a2:Am):Option (Bool):=
 (Sm a2.aj a0.ae).bind λv1=>
 some (decide (a1.ab<=v1))
def UP(a1:List AU)(v2:List (Au)):Option (Bool):=
 (UG v2).bind λv3=>
 if(decide ((a1.length:Int)<=12))then
  (UJ v3.2).bind λv4=>
  some (decide ((v4.length:Int)<=24))
 else
  some false
def US(v5:Int)(v8:List (Au)):Option ((Int × List (Au)) ⊕ Option (Bool)):=
 some (.inl ((IntKind.i64.wrap (v5+1)),v8))
def Nu(a0:Am)(v5:Int)(y7:AU)(v9:Int)(v10:List (Au)):Option ((Int × List (Au)) ⊕ Option ((Int × List (Au)) ⊕ Option (Bool))):=
 if(decide (v9<(y7.af.length:Int)))then
  (getI y7.af v9).bind λy11=>
  (Sr a0.aj y11.ae).bind λv12=>
  if v12.2 then
   (getI a0.aj v12.1).bind λy13=>
   if(decide ((y13.al.length:Int)>=16))then
    some (.inr (some (.inr (some false))))
   else
    req ((((v10).length:Int)+(([y11.ae]:List (Au)).length:Int))*16<=140737488355328/\((v10).length:Int)+(([y11.ae]:List (Au)).length:Int)<=140737488355328)<|
    some (.inl ((IntKind.i64.wrap (v9+1)),(v10++ [y11.ae])))
  else
   req ((((v10).length:Int)+(([y11.ae]:List (Au)).length:Int))*16<=140737488355328/\((v10).length:Int)+(([y11.ae]:List (Au)).length:Int)<=140737488355328)<|
   some (.inl ((IntKind.i64.wrap (v9+1)),(v10++ [y11.ae])))
 else
  some (.inr (US v5 v10))
def LZ(a0:Am)(a1:List AU)(v5:Int)(v6:List (Au)):Option ((Int × List (Au)) ⊕ Option (Bool)):=
 if(decide (v5<(a1.length:Int)))then
  (getI a1 v5).bind λy7=>
  AG (λs:Int × List (Au)=>Nu a0 v5 y7 s.1 s.2) (0,v6)
 else
  some (.inr (UP a1 v6))
def Zz(a0:Am)(a1:List AU)(v1:List (Au)):Option (Bool):=
 AG (λs:Int × List (Au)=>LZ a0 a1 s.1 s.2) (0,v1)
def OQ(a0:Am)(a1:List AU)(v14:Int)(v15:List (Au)):Option ((Int × List (Au)) ⊕ Option (Bool)):=
 if(decide (v14<(a0.aj.length:Int)))then
  (getI a0.aj v14).bind λy16=>
  req ((((v15).length:Int)+(([y16.ae]:List (Au)).length:Int))*16<=140737488355328/\((v15).length:Int)+(([y16.ae]:List (Au)).length:Int)<=140737488355328)<|
  some (.inl ((IntKind.i64.wrap (v14+1)),(v15++ [y16.ae])))
 else
  some (.inr (Zz a0 a1 v15))
def U8(a0:Am)(a1:List AU):Option (Bool):=
 AG (λs:Int × List (Au)=>OQ a0 a1 s.1 s.2) (0,[])
def Zu(a0:Am):Option (Bool):=
 (U8 a0 a0.ah).bind λv1=>
 some v1
def OR(a0:Am)(v2:Int):Option ((Int) ⊕ Option (Bool)):=
 if(decide (v2<(a0.ah.length:Int)))then
  (getI a0.ah v2).bind λy3=>
  (ZS y3).bind λv4=>
  (Vs v4).bind λv5=>
  if(decide (v2>0))then
   if v5 then
    if(decide (y3.ab>a0.aw))then
     some (.inr (some false))
    else
     (getI a0.ah (IntKind.i64.wrap (v2-1))).bind λy6=>
     if(decide (y3.ay<=y6.ay))then
      some (.inr (some false))
     else
      req (0<=(0:Int)/\(0:Int)<=v2/\v2<=(a0.ah.length:Int))<|
      (EJ (AF a0.ah 0 v2) (λy0_=>Sb y0_ y3)).bind λv7=>
      if v7 then
       some (.inr (some false))
      else
       (EJ y3.af (λy0_=>Sa y0_ y3 a0)).bind λv8=>
       if v8 then
        some (.inr (some false))
       else
        some (.inl (IntKind.i64.wrap (v2+1)))
   else
    some (.inr (some false))
  else
   if(((!v5)||(decide (y3.ab>a0.aw)))||false)then
    some (.inr (some false))
   else
    req (0<=(0:Int)/\(0:Int)<=v2/\v2<=(a0.ah.length:Int))<|
    (EJ (AF a0.ah 0 v2) (λy0_=>Sb y0_ y3)).bind λv9=>
    if v9 then
     some (.inr (some false))
    else
     (EJ y3.af (λy0_=>Sa y0_ y3 a0)).bind λv10=>
     if v10 then
      some (.inr (some false))
     else
      some (.inl (IntKind.i64.wrap (v2+1)))
 else
  some (.inr (Zu a0))
def UQ(a0:Am):Option (Bool):=
 AG (λs:Int=>OR a0 s) 0
def Zq(a0:List AU)(a1:Int)(a2:AU->Int->Option Int)(v1:Int):Option (Int × Bool):=
 if(decide (v1<(a0.length:Int)))then
  (getI a0 v1).bind λy2=>
  (a2 y2 a1).bind λv3=>
  some (v1,(v3==0))
 else
  some (v1,false)
def OV(a0:List AU)(a1:Int)(a2:AU->Int->Option Int)(v4 v5:Int):Option ((Int × Int) ⊕ Option (Int × Bool)):=
 if(decide (v4<v5))then
  (getI a0 (IntKind.i64.wrap (Int.fdiv (IntKind.u64.wrap (IntKind.i64.wrap (v4+v5))) (2^(min ((1:Int)).toNat (IntKind.bits .u64)))))).bind λy6=>
  (a2 y6 a1).bind λv7=>
  if(decide (v7<0))then
   some (.inl ((IntKind.i64.wrap ((IntKind.i64.wrap (Int.fdiv (IntKind.u64.wrap (IntKind.i64.wrap (v4+v5))) (2^(min ((1:Int)).toNat (IntKind.bits .u64)))))+1)),v5))
  else
   some (.inl (v4,(IntKind.i64.wrap (Int.fdiv (IntKind.u64.wrap (IntKind.i64.wrap (v4+v5))) (2^(min ((1:Int)).toNat (IntKind.bits .u64)))))))
 else
  some (.inr (Zq a0 a1 a2 v4))
def UM(a0:List AU)(a1:Int)(a2:AU->Int->Option Int):Option (Int × Bool):=
 AG (λs:Int × Int=>OV a0 a1 a2 s.1 s.2) (0,(a0.length:Int))
def Sv(a0:Int):Option (Bool):=
 some (a0 !=a0)
def O6(a0 a1:Int):Option (Int):=
 (Sv a0).bind λv1=>
 (Sv a1).bind λv2=>
 if v1 then
  if v2 then
   some 0
  else
   some (-1)
 else
  if v2 then
   some 1
  else
   if(decide (a0<a1))then
    some (-1)
   else
    if(decide (a0>a1))then
     some 1
    else
     some 0
def Ns(a0:AU)(a1:Int):Option (Int):=
 (O6 a0.ay a1).bind λv1=>
 some v1
def Nt(a0:Am)(a1:Int):Option (Int × Bool):=
 (UM a0.ah a1 (λy0_ y1_=>Ns y0_ y1_)).bind λv1=>
 some (v1.1,v1.2)
def Pe(a0:Am)(v4:Int):Option ((Int) ⊕ Option (Bool)):=
 if(decide (v4<(a0.az.length:Int)))then
  (getI a0.az v4).bind λy5=>
  if y5.cq then
   (Ie y5.ab 1 a0.aw).bind λv6=>
   (NK y5.ay).bind λv7=>
   if(decide (v4>0))then
    if v7 then
     if v6 then
      (getI a0.az (IntKind.i64.wrap (v4-1))).bind λy8=>
      if(decide (y5.ay<=y8.ay))then
       some (.inr (some false))
      else
       (Nt a0 y5.ay).bind λv9=>
       if v9.2 then
        some (.inr (some false))
       else
        some (.inl (IntKind.i64.wrap (v4+1)))
     else
      some (.inr (some false))
    else
     some (.inr (some false))
   else
    if(((!v7)||(!(v6||false)))||false)then
     some (.inr (some false))
    else
     (Nt a0 y5.ay).bind λv10=>
     if v10.2 then
      some (.inr (some false))
     else
      some (.inl (IntKind.i64.wrap (v4+1)))
  else
   (NK y5.ay).bind λv11=>
   if(decide (v4>0))then
    if v11 then
     if(y5.ab==0)then
      (getI a0.az (IntKind.i64.wrap (v4-1))).bind λy12=>
      if(decide (y5.ay<=y12.ay))then
       some (.inr (some false))
      else
       (Nt a0 y5.ay).bind λv13=>
       if v13.2 then
        some (.inr (some false))
       else
        some (.inl (IntKind.i64.wrap (v4+1)))
     else
      some (.inr (some false))
    else
     some (.inr (some false))
   else
    if(((!v11)||(!(y5.ab==0)))||false)then
     some (.inr (some false))
    else
     (Nt a0 y5.ay).bind λv14=>
     if v14.2 then
      some (.inr (some false))
     else
      some (.inl (IntKind.i64.wrap (v4+1)))
 else
  some (.inr (some true))
def ZK(a0:Am):Option (Bool):=
 AG (λs:Int=>Pe a0 s) 0
def Pd(a0:Am)(v15:Int):Option ((Int) ⊕ Option (Bool)):=
 if(decide (v15<(a0.aj.length:Int)))then
  (getI a0.aj v15).bind λy16=>
  (Sm a0.aj y16.ae).bind λv17=>
  if(decide (v17>a0.aw))then
   some (.inr (some false))
  else
   some (.inl (IntKind.i64.wrap (v15+1)))
 else
  some (.inr (ZK a0))
def Vr(a0:Am):Option (Bool):=
 (Ic a0.aw).bind λv1=>
 if v1 then
  (Sz a0.aj).bind λv2=>
  if v2 then
   (UQ a0).bind λv3=>
   if((!v3)||(decide ((a0.az.length:Int)>60)))then
    some false
   else
    AG (λs:Int=>Pd a0 s) 0
  else
   some false
 else
  some false
def ZH(a0:Am):Option (Bool):=
 (Vr a0).bind λv1=>
 some (!v1)
def Vk(a0:List Am):Option (Bool):=
 (Ie (a0.length:Int) 1 4).bind λv1=>
 if v1 then
  (EJ a0 (λy0_=>ZH y0_)).bind λv2=>
  some (!v2)
 else
  some false
def OS(a0:Am)(v1 v2:Int):Option ((Int × Int) ⊕ Option (Int)):=
 if(decide (v2<(a0.ah.length:Int)))then
  (getI a0.ah v2).bind λy3=>
  some (.inl ((bif (decide ((IntKind.i64.wrap (y3.ab-1))<v1))then(IntKind.i64.wrap (y3.ab-1))else v1),(IntKind.i64.wrap (v2+1))))
 else
  some (.inr (some v1))
def UR(a0:Am):Option (Int):=
 AG (λs:Int × Int=>OS a0 s.1 s.2) (a0.aw,0)
def Ps(a0:List Am)(v1 v2:Int):Option ((Int × Int) ⊕ Option (Int)):=
 if(decide (v2<(a0.length:Int)))then
  (getI a0 v2).bind λy3=>
  (UR y3).bind λv4=>
  some (.inl ((bif (decide (v4<v1))then v4 else v1),(IntKind.i64.wrap (v2+1))))
 else
  some (.inr (some v1))
def VW(a0:List Am):Option (Int):=
 AG (λs:Int × Int=>Ps a0 s.1 s.2) (100000,0)
def Sw(a0:List Int)(v1:Int):Option ((Int) ⊕ Option (Int)):=
 if(decide (v1<(a0.length:Int)))then
  (getI a0 v1).bind λy2=>
  if(y2 !=0)then
   some (.inr (some y2))
  else
   some (.inl (IntKind.i64.wrap (v1+1)))
 else
  some (.inr (some 0))
def VS(a0:List Int):Option (Int):=
 AG (λs:Int=>Sw a0 s) 0
def U9(a0 a1:Ai):Option (Int):=
 (O6 a0.ab a1.ab).bind λv1=>
 (O6 a0.aq a1.aq).bind λv2=>
 (O9 a0.ae a1.ae).bind λv3=>
 (VS ([v1,v2,v3]:List Int)).bind λv4=>
 some v4
def ZZ(v1:List Ai):Option (List Ai):=
 (PC 19 [] v1).bind λv2=>
 some v2.2
def Z2(v3:Int)(v6:List Ai):Option ((Int × List Ai) ⊕ Option (List Ai)):=
 some (.inl ((IntKind.i64.wrap (v3+1)),v6))
def U5(a1 a2:Int)(a3 v3:Int)(y5:Ag)(v7:Int)(v8:List Ai):Option ((Int × List Ai) ⊕ Option ((Int × List Ai) ⊕ Option (List Ai))):=
 if(decide (v7<(y5.al.length:Int)))then
  (getI y5.al v7).bind λy9=>
  if((decide (y9.ab>a2))&&(decide (y9.ab<=a3)))then
   req ((((v8).length:Int)+(([(⟨y9.ab,a1,y5.ae,y9.a7,y9.au⟩:Ai)]:List Ai).length:Int))*56<=140737488355328/\((v8).length:Int)+(([(⟨y9.ab,a1,y5.ae,y9.a7,y9.au⟩:Ai)]:List Ai).length:Int)<=140737488355328)<|
   some (.inl ((IntKind.i64.wrap (v7+1)),(v8++ [(⟨y9.ab,a1,y5.ae,y9.a7,y9.au⟩:Ai)])))
  else
   some (.inl ((IntKind.i64.wrap (v7+1)),v8))
 else
  some (.inr (Z2 v3 v8))
def UW(a0:Am)(a1 a2:Int)(a3 v3:Int)(v4:List Ai):Option ((Int × List Ai) ⊕ Option (List Ai)):=
 if(decide (v3<(a0.aj.length:Int)))then
  (getI a0.aj v3).bind λy5=>
  AG (λs:Int × List Ai=>U5 a1 a2 a3 v3 y5 s.1 s.2) (0,v4)
 else
  some (.inr (ZZ v4))
def SI(a0:Am)(a1 a2 a3:Int):Option (List Ai):=
 AG (λs:Int × List Ai=>UW a0 a1 a2 a3 s.1 s.2) (0,[])
def Z9(a0:List Ai):Option (Bool):=
 some (decide ((a0.length:Int)<=400))
def Ny(a0:List Ai)(v1:Int):Option ((Int) ⊕ Option (Bool)):=
 if(decide (v1<(a0.length:Int)))then
  if(decide (v1>0))then
   (getI a0 (IntKind.i64.wrap (v1-1))).bind λy2=>
   (getI a0 v1).bind λy3=>
   (U9 y2 y3).bind λv4=>
   if(decide (v4>=0))then
    some (.inr (some false))
   else
    some (.inl (IntKind.i64.wrap (v1+1)))
  else
   some (.inl (IntKind.i64.wrap (v1+1)))
 else
  some (.inr (Z9 a0))
def Pw(a0:List Ai):Option (Bool):=
 AG (λs:Int=>Ny a0 s) 0
def ZA(a0:C8)(v3:Int)(v4:List Ai):Option (C8 × List Ai × Bool):=
 (PC 19 [] v4).bind λv5=>
 (Pw v5.2).bind λv6=>
 if(!v6)then
  some ((⟨0⟩:C8),[],false)
 else
  some ((⟨(bif (decide (v3>a0.cg))then v3 else a0.cg)⟩:C8),v5.2,true)
def NF(a0:C8)(a1:List Am)(v3 v7:Int)(v8:List Ai):Option ((Int × List Ai) ⊕ Option (C8 × List Ai × Bool)):=
 if(decide (v7<(a1.length:Int)))then
  (getI a1 v7).bind λy9=>
  (SI y9 v7 a0.cg (bif (decide (v3>a0.cg))then v3 else a0.cg)).bind λv10=>
  req ((((v8).length:Int)+((v10).length:Int))*56<=140737488355328/\((v8).length:Int)+((v10).length:Int)<=140737488355328)<|
  some (.inl ((IntKind.i64.wrap (v7+1)),(v8++v10)))
 else
  some (.inr (ZA a0 v3 v8))
def Vc(a0:C8)(a1:List Am):Option (C8 × List Ai × Bool):=
 (Ic a0.cg).bind λv1=>
 if v1 then
  (Vk a1).bind λv2=>
  if(!v2)then
   some ((⟨0⟩:C8),[],false)
  else
   (VW a1).bind λv3=>
   AG (λs:Int × List Ai=>NF a0 a1 v3 s.1 s.2) (0,[])
 else
  some ((⟨0⟩:C8),[],false)
def aG(a0:Int):Option (Bool):=
 (Fy a0 0 100000).bind λv1=>
 some v1
def Z3(a0:AU):Option (Bj):=
 some (⟨1,a0.ay,a0.ab,a0.bp,a0.ao,a0.af,false⟩:Bj)
def ZY(a0:Am):Option (Bool):=
 if(decide ((a0.ah.length:Int)<=12))then
  (SF a0 ([]:List Ak)).bind λv1=>
  some v1
 else
  some false
def ZR(v2:Int):Option ((Int) ⊕ Option (Bool)):=
 some (.inl (IntKind.i64.wrap (v2+1)))
def OY(a0:Am)(v2:Int)(y3:AU)(v7:Int):Option ((Int) ⊕ Option ((Int) ⊕ Option (Bool))):=
 if(decide (v7<(y3.af.length:Int)))then
  (getI y3.af v7).bind λy8=>
  (NL a0.aj y8.ae).bind λv9=>
  if(decide (v9>=y3.ab))then
   some (.inr (some (.inr (some false))))
  else
   some (.inl (IntKind.i64.wrap (v7+1)))
 else
  some (.inr (ZR v2))
def Sd(a0:Am)(v2:Int)(y3:AU):Option ((Int) ⊕ Option (Bool)):=
 AG (λs:Int=>OY a0 v2 y3 s) 0
def O2(a0:Am)(v2:Int)(y3:AU)(v10:Int):Option ((Int) ⊕ Option ((Int) ⊕ Option (Bool))):=
 if(decide (v10<((AF a0.ah 0 v2).length:Int)))then
  (getI (AF a0.ah 0 v2) v10).bind λy11=>
  (Pl y11 y3.ao y3.af).bind λv12=>
  if(!v12)then
   some (.inr (some (.inr (some false))))
  else
   some (.inl (IntKind.i64.wrap (v10+1)))
 else
  some (.inr (Sd a0 v2 y3))
def ZO(v2:Int):Option ((Int) ⊕ Option (Bool)):=
 some (.inl (IntKind.i64.wrap (v2+1)))
def OX(a0:Am)(v2:Int)(y3:AU)(v13:Int):Option ((Int) ⊕ Option ((Int) ⊕ Option (Bool))):=
 if(decide (v13<(y3.af.length:Int)))then
  (getI y3.af v13).bind λy14=>
  (NL a0.aj y14.ae).bind λv15=>
  if(decide (v15>=y3.ab))then
   some (.inr (some (.inr (some false))))
  else
   some (.inl (IntKind.i64.wrap (v13+1)))
 else
  some (.inr (ZO v2))
def Sf(a0:Am)(v2:Int)(y3:AU):Option ((Int) ⊕ Option (Bool)):=
 AG (λs:Int=>OX a0 v2 y3 s) 0
def O7(a0:Am)(v2:Int)(y3:AU)(v16:Int):Option ((Int) ⊕ Option ((Int) ⊕ Option (Bool))):=
 if(decide (v16<((AF a0.ah 0 v2).length:Int)))then
  (getI (AF a0.ah 0 v2) v16).bind λy17=>
  (Pl y17 y3.ao y3.af).bind λv18=>
  if(!v18)then
   some (.inr (some (.inr (some false))))
  else
   some (.inl (IntKind.i64.wrap (v16+1)))
 else
  some (.inr (Sf a0 v2 y3))
def Pq(a0:Am)(v2:Int):Option ((Int) ⊕ Option (Bool)):=
 if(decide (v2<(a0.ah.length:Int)))then
  (getI a0.ah v2).bind λy3=>
  (Z3 y3).bind λv4=>
  (NN v4).bind λv5=>
  if(decide (v2>0))then
   if v5 then
    if(decide (y3.ab>a0.aw))then
     some (.inr (some false))
    else
     (getI a0.ah (IntKind.i64.wrap (v2-1))).bind λy6=>
     if(decide (y6.ay>=y3.ay))then
      some (.inr (some false))
     else
      req (0<=(0:Int)/\(0:Int)<=v2/\v2<=(a0.ah.length:Int))<|
      AG (λs:Int=>O2 a0 v2 y3 s) 0
   else
    some (.inr (some false))
  else
   if(((!v5)||(decide (y3.ab>a0.aw)))||false)then
    some (.inr (some false))
   else
    req (0<=(0:Int)/\(0:Int)<=v2/\v2<=(a0.ah.length:Int))<|
    AG (λs:Int=>O7 a0 v2 y3 s) 0
 else
  some (.inr (ZY a0))
def VD(a0:Am):Option (Bool):=
 AG (λs:Int=>Pq a0 s) 0
def O0(a0:Am)(v4:Int):Option ((Int) ⊕ Option (Bool)):=
 if(decide (v4<(a0.az.length:Int)))then
  (getI a0.az v4).bind λy5=>
  (Fy y5.ay 1 60).bind λv6=>
  if(decide (v4>0))then
   if v6 then
    (getI a0.az (IntKind.i64.wrap (v4-1))).bind λy7=>
    if y5.cq then
     if(decide (y7.ay>=y5.ay))then
      some (.inr (some false))
     else
      (Fy y5.ab 1 a0.aw).bind λv8=>
      if((!v8)||false)then
       some (.inr (some false))
      else
       (KH a0 y5.ay).bind λv9=>
       if v9.2 then
        some (.inr (some false))
       else
        some (.inl (IntKind.i64.wrap (v4+1)))
    else
     if(((decide (y7.ay>=y5.ay))||false)||(y5.ab !=0))then
      some (.inr (some false))
     else
      (KH a0 y5.ay).bind λv10=>
      if v10.2 then
       some (.inr (some false))
      else
       some (.inl (IntKind.i64.wrap (v4+1)))
   else
    some (.inr (some false))
  else
   if y5.cq then
    if v6 then
     (Fy y5.ab 1 a0.aw).bind λv11=>
     if((!v11)||false)then
      some (.inr (some false))
     else
      (KH a0 y5.ay).bind λv12=>
      if v12.2 then
       some (.inr (some false))
      else
       some (.inl (IntKind.i64.wrap (v4+1)))
    else
     some (.inr (some false))
   else
    if((((!v6)||false)||false)||(y5.ab !=0))then
     some (.inr (some false))
    else
     (KH a0 y5.ay).bind λv13=>
     if v13.2 then
      some (.inr (some false))
     else
      some (.inl (IntKind.i64.wrap (v4+1)))
 else
  some (.inr (some true))
def ZQ(a0:Am):Option (Bool):=
 AG (λs:Int=>O0 a0 s) 0
def O1(a0:Am)(v14:Int):Option ((Int) ⊕ Option (Bool)):=
 if(decide (v14<(a0.aj.length:Int)))then
  (getI a0.aj v14).bind λy15=>
  (NL a0.aj y15.ae).bind λv16=>
  if(decide (v16>a0.aw))then
   some (.inr (some false))
  else
   some (.inl (IntKind.i64.wrap (v14+1)))
 else
  some (.inr (ZQ a0))
def Vy(a0:Am):Option (Bool):=
 (aG a0.aw).bind λv1=>
 if v1 then
  (SB a0.aj).bind λv2=>
  if v2 then
   (VD a0).bind λv3=>
   if((!v3)||(decide ((a0.az.length:Int)>60)))then
    some false
   else
    AG (λs:Int=>O1 a0 s) 0
  else
   some false
 else
  some false
def SD(a0 a1:Int):Option (Int):=
 if(decide (a0<a1))then
  some a0
 else
  some a1
def Pa(a0:Am)(v1 v2:Int):Option ((Int × Int) ⊕ Option (Int)):=
 if(decide (v2<(a0.ah.length:Int)))then
  (getI a0.ah v2).bind λy3=>
  (SD v1 (IntKind.i64.wrap (y3.ab-1))).bind λv4=>
  some (.inl (v4,(IntKind.i64.wrap (v2+1))))
 else
  some (.inr (some v1))
def UX(a0:Am):Option (Int):=
 AG (λs:Int × Int=>Pa a0 s.1 s.2) (a0.aw,0)
def Vp(a0:Am):Option (Int × Bool):=
 (Vy a0).bind λv1=>
 if(!v1)then
  some (0,false)
 else
  (UX a0).bind λv2=>
  some (v2,true)
def jZ(a0:List Am)(v1:Int):Option (Int × Bool):=
 (Fy (a0.length:Int) 1 4).bind λv2=>
 if(!v2)then
  some (0,false)
 else
  some (v1,true)
def KI(a0:List Am)(v3 v4:Int):Option ((Int × Int) ⊕ Option (Int × Bool)):=
 if(decide (v4<(a0.length:Int)))then
  (getI a0 v4).bind λy5=>
  (Vp y5).bind λv6=>
  if(!v6.2)then
   some (.inr (some (0,false)))
  else
   (SD v3 v6.1).bind λv7=>
   some (.inl (v7,(IntKind.i64.wrap (v4+1))))
 else
  some (.inr (jZ a0 v3))
def VQ(a0:List Am):Option (Int × Bool):=
 AG (λs:Int × Int=>KI a0 s.1 s.2) (100000,0)
def Pg(a0 a1:Ai):Option (Bool):=
 if(a0.ab !=a1.ab)then
  some (decide (a0.ab<a1.ab))
 else
  if(a0.aq !=a1.aq)then
   some (decide (a0.aq<a1.aq))
  else
   some (Op.bytesLess a0.ae a1.ae)
def Pt(a0:List Ai)(a1:Ai)(v1:Int):Option (List Ai × Bool):=
 if(decide (v1<(a0.length:Int)))then
  (getI a0 v1).bind λy2=>
  (Pg a1 y2).bind λv3=>
  if(!v3)then
   some (a0,(y2.ab==a1.ab&&(y2.aq==a1.aq&&(y2.ae==a1.ae&&(y2.a7==a1.a7&&(y2.au==a1.au))))))
  else
   req (0<=(0:Int)/\(0:Int)<=v1/\v1<=(a0.length:Int))<|
   req (((([]:List Ai).length:Int)+(((AF a0 0 v1)).length:Int))*56<=140737488355328/\(([]:List Ai).length:Int)+(((AF a0 0 v1)).length:Int)<=140737488355328)<|
   req (((((AF a0 0 v1)).length:Int)+(([a1]:List Ai).length:Int))*56<=140737488355328/\(((AF a0 0 v1)).length:Int)+(([a1]:List Ai).length:Int)<=140737488355328)<|
   req (0<=v1/\v1<=(a0.length:Int)/\(a0.length:Int)<=(a0.length:Int))<|
   req ((((((AF a0 0 v1)++ [a1])).length:Int)+(((AF a0 v1 (a0.length:Int))).length:Int))*56<=140737488355328/\((((AF a0 0 v1)++ [a1])).length:Int)+(((AF a0 v1 (a0.length:Int))).length:Int)<=140737488355328)<|
   some ((((AF a0 0 v1)++ [a1])++(AF a0 v1 (a0.length:Int))),true)
 else
  req (0<=(0:Int)/\(0:Int)<=v1/\v1<=(a0.length:Int))<|
  req (((([]:List Ai).length:Int)+(((AF a0 0 v1)).length:Int))*56<=140737488355328/\(([]:List Ai).length:Int)+(((AF a0 0 v1)).length:Int)<=140737488355328)<|
  req (((((AF a0 0 v1)).length:Int)+(([a1]:List Ai).length:Int))*56<=140737488355328/\(((AF a0 0 v1)).length:Int)+(([a1]:List Ai).length:Int)<=140737488355328)<|
  req (0<=v1/\v1<=(a0.length:Int)/\(a0.length:Int)<=(a0.length:Int))<|
  req ((((((AF a0 0 v1)++ [a1])).length:Int)+(((AF a0 v1 (a0.length:Int))).length:Int))*56<=140737488355328/\((((AF a0 0 v1)++ [a1])).length:Int)+(((AF a0 v1 (a0.length:Int))).length:Int)<=140737488355328)<|
  some ((((AF a0 0 v1)++ [a1])++(AF a0 v1 (a0.length:Int))),true)
def KF(a0:List Ai)(a1:Ai)(v4:Int):Option ((Int) ⊕ Option (List Ai × Bool)):=
 if(decide (v4<(a0.length:Int)))then
  (getI a0 v4).bind λy5=>
  (Pg y5 a1).bind λv6=>
  if v6 then
   some (.inl (IntKind.i64.wrap (v4+1)))
  else
   some (.inr (Pt a0 a1 v4))
 else
  some (.inr (Pt a0 a1 v4))
def L2(a0:List Ai)(a1:Ai):Option (List Ai × Bool):=
 AG (λs:Int=>KF a0 a1 s) 0
def Z5(v2:Int)(v3:List Ai):Option ((List Ai × Int) ⊕ Option (List Ai)):=
 some (.inl (v3,(IntKind.i64.wrap (v2+1))))
def VF(a0:List Ag)(a1 a2:Int)(a3 v2:Int)(v4:List Ai)(v5:Int):Option ((List Ai × Int) ⊕ Option ((List Ai × Int) ⊕ Option (List Ai))):=
 (getI a0 v2).bind λy6=>
 if(decide (v5<(y6.al.length:Int)))then
  (getI y6.al v5).bind λy7=>
  if((decide (y7.ab>a2))&&(decide (y7.ab<=a3)))then
   (L2 v4 (⟨y7.ab,a1,y6.ae,y7.a7,y7.au⟩:Ai)).bind λv8=>
   some (.inl (v8.1,(IntKind.i64.wrap (v5+1))))
  else
   some (.inl (v4,(IntKind.i64.wrap (v5+1))))
 else
  some (.inr (Z5 v2 v4))
def VG(a0:List Ag)(a1 a2 a3:Int)(v1:List Ai)(v2:Int):Option ((List Ai × Int) ⊕ Option (List Ai)):=
 if(decide (v2<(a0.length:Int)))then
  AG (λs:List Ai × Int=>VF a0 a1 a2 a3 v2 s.1 s.2) (v1,0)
 else
  some (.inr (some v1))
def SL(a0:List Ag)(a1 a2 a3:Int):Option (List Ai):=
 AG (λs:List Ai × Int=>VG a0 a1 a2 a3 s.1 s.2) ([],0)
def VE(a0:Ai):Option (Bool):=
 (Fy a0.ab 1 100000).bind λv1=>
 if v1 then
  (Fy a0.aq 0 3).bind λv2=>
  if v2 then
   (Px a0.ae a0.a7 a0.au).bind λv3=>
   some v3
  else
   some false
 else
  some false
def Sc(a0:List Ai):Option (Bool):=
 some (decide ((a0.length:Int)<=400))
def Hz(a0:List Ai)(v1:Int):Option ((Int) ⊕ Option (Bool)):=
 if((decide (v1<(a0.length:Int)))&&(decide (v1<=400)))then
  (getI a0 v1).bind λy2=>
  (VE y2).bind λv3=>
  if(decide (v1>0))then
   if v3 then
    (getI a0 (IntKind.i64.wrap (v1-1))).bind λy4=>
    (Pg y4 y2).bind λv5=>
    if(!v5)then
     some (.inr (some false))
    else
     some (.inl (IntKind.i64.wrap (v1+1)))
   else
    some (.inr (some false))
  else
   if((!v3)||false)then
    some (.inr (some false))
   else
    some (.inl (IntKind.i64.wrap (v1+1)))
 else
  some (.inr (Sc a0))
def SE(a0:List Ai):Option (Bool):=
 AG (λs:Int=>Hz a0 s) 0
def ZJ(v3:List Ai):Option (List Ai × Bool):=
 if(decide ((v3.length:Int)>400))then
  some ([],false)
 else
  some (v3,true)
def Pb(a1 v4:List Ai)(v5:Int):Option ((List Ai × Int) ⊕ Option (List Ai × Bool)):=
 if(decide (v5<(a1.length:Int)))then
  (getI a1 v5).bind λy6=>
  (L2 v4 y6).bind λv7=>
  if(!v7.2)then
   some (.inr (some ([],false)))
  else
   some (.inl (v7.1,(IntKind.i64.wrap (v5+1))))
 else
  some (.inr (ZJ v4))
def Sy(a0 a1:List Ai):Option (List Ai × Bool):=
 (SE a0).bind λv1=>
 if v1 then
  (SE a1).bind λv2=>
  if(!v2)then
   some ([],false)
  else
   req (((([]:List Ai).length:Int)+((a0).length:Int))*56<=140737488355328/\(([]:List Ai).length:Int)+((a0).length:Int)<=140737488355328)<|
   AG (λs:List Ai × Int=>Pb a1 s.1 s.2) (a0,0)
 else
  some ([],false)
def jM(v3:Int)(v4:List Ai):Option (C8 × List Ai × Bool):=
 some ((⟨v3⟩:C8),v4,true)
def NG(a0:C8)(a1:List Am)(v3:Int)(v5:List Ai)(v6:Int):Option ((List Ai × Int) ⊕ Option (C8 × List Ai × Bool)):=
 if(decide (v6<(a1.length:Int)))then
  (getI a1 v6).bind λy7=>
  (SL y7.aj v6 a0.cg v3).bind λv8=>
  (Sy v5 v8).bind λv9=>
  if(!v9.2)then
   some (.inr (some ((⟨0⟩:C8),[],false)))
  else
   some (.inl (v9.1,(IntKind.i64.wrap (v6+1))))
 else
  some (.inr (jM v3 v5))
def Vh(a0:C8)(a1:List Am):Option (C8 × List Ai × Bool):=
 (VQ a1).bind λv1=>
 if v1.2 then
  (Fy a0.cg 0 100000).bind λv2=>
  if(!v2)then
   some ((⟨0⟩:C8),[],false)
  else
   (L1 v1.1 a0.cg).bind λv3=>
   AG (λs:List Ai × Int=>NG a0 a1 v3 s.1 s.2) ([],0)
 else
  some ((⟨0⟩:C8),[],false)
def Sx(a0 a1:List Ai)(v1:Int):Option ((Int) ⊕ Option (Bool)):=
 if(decide (v1<(a0.length:Int)))then
  (getI a0 v1).bind λy2=>
  (getI a1 v1).bind λy3=>
  if(!(y2.ab==y3.ab&&(y2.aq==y3.aq&&(y2.ae==y3.ae&&(y2.a7==y3.a7&&(y2.au==y3.au))))))then
   some (.inr (some false))
  else
   some (.inl (IntKind.i64.wrap (v1+1)))
 else
  some (.inr (some true))
def VO(a0 a1:List Ai):Option (Bool):=
 if((a0.length:Int) !=(a1.length:Int))then
  some false
 else
  AG (λs:Int=>Sx a0 a1 s) 0
def OZ(a0:List Ag)(a1 v1:Int)(v2:List Ak):Option ((Int × List Ak) ⊕ Option (List Ak)):=
 if(decide (v1<(a0.length:Int)))then
  (getI a0 v1).bind λy3=>
  (Vl y3 a1).bind λv4=>
  if v4.2 then
   req ((((v2).length:Int)+(([(⟨y3.ae,v4.1,false⟩:Ak)]:List Ak).length:Int))*40<=140737488355328/\((v2).length:Int)+(([(⟨y3.ae,v4.1,false⟩:Ak)]:List Ak).length:Int)<=140737488355328)<|
   some (.inl ((IntKind.i64.wrap (v1+1)),(v2++ [(⟨y3.ae,v4.1,false⟩:Ak)])))
  else
   some (.inl ((IntKind.i64.wrap (v1+1)),v2))
 else
  some (.inr (some v2))
def Vw(a0:List Ag)(a1:Int):Option (List Ak):=
 AG (λs:Int × List Ak=>OZ a0 a1 s.1 s.2) (0,[])
def SO(a0:List Ag)(a1:Int):Option (DX × Bool):=
 (Sz a0).bind λv1=>
 if v1 then
  (Ic a1).bind λv2=>
  if(!v2)then
   some ((⟨0,[]⟩:DX),false)
  else
   (Vw a0 a1).bind λv3=>
   some ((⟨a1,v3⟩:DX),true)
 else
  some ((⟨0,[]⟩:DX),false)
def Va(a0:Ak):Option (Bool):=
 some a0.au
def VU(a0:List Ak):Option (Bool):=
 (Se a0).bind λv1=>
 if v1 then
  (EJ a0 (λy0_=>Va y0_)).bind λv2=>
  some (!v2)
 else
  some false
def Sl(a0:DX):Option (Bool):=
 (Ic a0.ab).bind λv1=>
 if v1 then
  (VU a0.bz).bind λv2=>
  some (v2&&((decide (a0.ab>0))||((a0.bz.length:Int)==0)))
 else
  some false
def aQ(a0:Int):Option (Bool):=
 (Ie a0 0 3).bind λv1=>
 some v1
def Vb(a0:Ai):Option (Bool):=
 (JE a0.ab).bind λv1=>
 if v1 then
  (aQ a0.aq).bind λv2=>
  if v2 then
   (Sk a0.ae).bind λv3=>
   if v3 then
    (Pm a0.a7 a0.au).bind λv4=>
    some v4
   else
    some false
  else
   some false
 else
  some false
def Z0(a0:Ai):Option (Bool):=
 (Vb a0).bind λv1=>
 some (!v1)
def Vg(a0:List Ai):Option (Bool):=
 (Pw a0).bind λv1=>
 if v1 then
  (EJ a0 (λy0_=>Z0 y0_)).bind λv2=>
  some (!v2)
 else
  some false
def ZW(a0:Ai)(a1:HX):Option (Bool):=
 some (((a0.aq !=0)||(decide (a0.ab<=a1.cu)))||(decide (a0.ab>a1.ga)))
def Ve(a0:HX):Option (Bool):=
 (Ic a0.cu).bind λv1=>
 if v1 then
  (Ic a0.ga).bind λv2=>
  if v2 then
   if(decide (a0.cu<=a0.ga))then
    if(decide ((a0.bw.length:Int)<=60))then
     (Vg a0.bw).bind λv3=>
     if v3 then
      (EJ a0.bw (λy0_=>ZW y0_ a0)).bind λv4=>
      some (!v4)
     else
      some false
    else
     some false
   else
    some false
  else
   some false
 else
  some false
def Zr(xs:List Ak):Option (List Ak):=eH 40 xs
def Vd(a0:List Ak)(a1:Ak):Option (List Ak):=
 (Nx a0 a1.ae).bind λv1=>
 if v1.2 then
  (getI a0 v1.1).bind λy2=>
  some (a0.set (v1.1).toNat a1)
 else
  (WC a0 v1.1 ([a1]:List Ak)).bind λv3=>
  some v3
def aD(a0:Ak):Option (Bool):=
 some a0.au
def ZN(a1:HX)(v4:List Ak):Option (DX × Bool):=
 (VH v4 (λy0_=>aD y0_)).bind λv5=>
 (Sl (⟨a1.ga,v5⟩:DX)).bind λv6=>
 if(!v6)then
  some ((⟨0,[]⟩:DX),false)
 else
  some ((⟨a1.ga,v5⟩:DX),true)
def O4(a1:HX)(v7:Int)(v8:List Ak):Option ((Int × List Ak) ⊕ Option (DX × Bool)):=
 if(decide (v7<(a1.bw.length:Int)))then
  (getI a1.bw v7).bind λy9=>
  (Vd v8 (⟨y9.ae,y9.a7,y9.au⟩:Ak)).bind λv10=>
  some (.inl ((IntKind.i64.wrap (v7+1)),v10))
 else
  some (.inr (ZN a1 v8))
def Vt(a0:DX)(a1:HX):Option (DX × Bool):=
 (Sl a0).bind λv1=>
 if v1 then
  (Ve a1).bind λv2=>
  if((!v2)||(a1.cu !=a0.ab))then
   some ((⟨0,[]⟩:DX),false)
  else
   (Zr a0.bz).bind λv3=>
   AG (λs:Int × List Ak=>O4 a1 s.1 s.2) (0,v3)
 else
  some ((⟨0,[]⟩:DX),false)
def Sn(a0 a1:List Ak)(v1:Int):Option ((Int) ⊕ Option (Bool)):=
 if(decide (v1<(a0.length:Int)))then
  (getI a0 v1).bind λy2=>
  (getI a1 v1).bind λy3=>
  if(!(y2.ae==y3.ae&&(y2.a7==y3.a7&&(y2.au==y3.au))))then
   some (.inr (some false))
  else
   some (.inl (IntKind.i64.wrap (v1+1)))
 else
  some (.inr (some true))
def VN(a0 a1:List Ak):Option (Bool):=
 if((a0.length:Int) !=(a1.length:Int))then
  some false
 else
  AG (λs:Int=>Sn a0 a1 s) 0
def V5(a0 a1:DX):Option (Bool):=
 if(a0.ab==a1.ab)then
  (VN a0.bz a1.bz).bind λv1=>
  some v1
 else
  some false
def ZM(v2:List Am)(v3:C8 × List Ai × Bool)(v6:Int)(v7:List Ai):Option (Bool):=
 (getI v2 0).bind λy8=>
 (SO y8.aj (Int.tmod v6 (IntKind.i64.wrap (v3.1.cg+1)))).bind λv9=>
 (Vt v9.1 (⟨(Int.tmod v6 (IntKind.i64.wrap (v3.1.cg+1))),v3.1.cg,v7⟩:HX)).bind λv10=>
 (SO y8.aj v3.1.cg).bind λv11=>
 if v9.2 then
  if v10.2 then
   if v11.2 then
    (V5 v10.1 v11.1).bind λv12=>
    some v12
   else
    some false
  else
   some false
 else
  some false
def Pc(v2:List Am)(v3:C8 × List Ai × Bool)(v6 v13:Int)(v14:List Ai):Option ((Int × List Ai) ⊕ Option (Bool)):=
 if(decide (v13<(v3.2.1.length:Int)))then
  (getI v3.2.1 v13).bind λy15=>
  if(decide (y15.ab>(Int.tmod v6 (IntKind.i64.wrap (v3.1.cg+1)))))then
   req ((((v14).length:Int)+(([y15]:List Ai).length:Int))*56<=140737488355328/\((v14).length:Int)+(([y15]:List Ai).length:Int)<=140737488355328)<|
   some (.inl ((IntKind.i64.wrap (v13+1)),(v14++ [y15])))
  else
   some (.inl ((IntKind.i64.wrap (v13+1)),v14))
 else
  some (.inr (ZM v2 v3 v6 v14))
def Vq(a0:List Int):Option (Bool):=
 (bP a0).bind λv1=>
 if v1 then
  some true
 else
  (Vx a0 8).bind λv2=>
  req (0<=(0:Int)/\(0:Int)<=1/\(1:Int)<=(v2.length:Int))<|
  (Vc (⟨0⟩:C8) (AF v2 0 1)).bind λv3=>
  req (0<=(0:Int)/\(0:Int)<=1/\(1:Int)<=(v2.length:Int))<|
  (Vh (⟨0⟩:C8) (AF v2 0 1)).bind λv4=>
  if(v3.2.2 !=v4.2.2)then
   some false
  else
   if(v3.1.cg==v4.1.cg)then
    (VO v3.2.1 v4.2.1).bind λv5=>
    if(!v5)then
     some false
    else
     (KJ a0 60).bind λv6=>
     req ((IntKind.i64.wrap (v3.1.cg+1))≠0)<|
     AG (λs:Int × List Ai=>Pc v2 v3 v6 s.1 s.2) (0,[])
   else
    some false
def zV:FS:=Ga 53 [.v (.st 4), .v (.i .i64)] (.tu (.cons (.v .s) (.cons (.v .b) .nil))) (λx=>Vl x.1 x.2.1) λx r _ h=>zmb x.1 x.2.1 r h
def yR:FS:=Ga 162 [.v .s, .v (.i .u8)] (.v (.i .i64)) (λx=>UK x.1 x.2.1) λx r _ h=>yQ x.1 x.2.1 r h
def yM:FS:=Ga 146 [.v (.l .s)] (.v (.l .s)) (λx=>UJ x.1) λx r _ h=>yK x.1 r h
def yO:FS:=Ga 145 [.v (.l .s)] (.tu (.cons (.tu .nil) (.cons (.v (.l .s)) .nil))) (λx=>UG x.1) λx r _ h=>yN x.1 r h
def jJ:FS:=Ga 18 [.v (.l (.st 0)), .fn [.st 0, .st 0] (.i .i64)] (.tu (.cons (.tu .nil) (.cons (.v (.l (.st 0))) .nil))) (λx=>PC x.2.1.g x.2.1.caps x.1) λx r hp h=>zo2 h
def yG:FS:=Ga 59 [.v (.l (.st 1)), .v (.i .i64), .v (.l (.st 1))] (.v (.l (.st 1))) (λx=>WC x.1 x.2.1 x.2.2.1) λx r hp h=>zzb (t:=35) (it:=3) (el:=52) (K:=3) (by kernel_rfl) (λ_=>by kernel_rfl) zv6 h
def zrD:FS:=AD 4 [.v (.l (.i .u8))] (.v .b) (λx=>bP x.1) [] []
def nA:FS:=AD 9 [.v (.l (.i .u8)), .v (.i .i64)] (.v (.i .i64)) (λx=>KJ x.1 x.2.1) [] []
def KK:FS:=AD 22 [.v (.i .i64), .v (.i .i64), .v (.i .i64)] (.v .b) (λx=>Fy x.1 x.2.1 x.2.2.1) [] []
def kT:FS:=AD 61 [.v (.i .i64)] (.v .b) (λx=>L0 x.1) [KK] []
def kN:FS:=AD 137 [.v .s, .v .s] (.v .b) (λx=>SG x.1 x.2.1) [] [.sp [.i .i64], .sp [.b, .i .i64]]
def aW:FS:=AD 100 [.v .s] (.v .b) (λx=>Py x.1) [KK,kN] []
def zpC:FS:=AD 62 [.v (.l .s)] (.v .b) (λx=>VP x.1) [aW] [.sp [.i .i64]]
def zri:FS:=AD 138 [.v .s] (.v .b) (λx=>VM x.1) [kN] []
def aP:FS:=AD 101 [.v .s, .v .s, .v .b] (.v .b) (λx=>Px x.1 x.2.1 x.2.2.1) [aW,zri] []
def zm5:FS:=AD 63 [.v (.l (.st 1))] (.v .b) (λx=>Vj x.1) [aP] [.sp [.i .i64]]
def kF:FS:=AD 35 [.v (.st 2)] (.v .b) (λx=>NN x.1) [KK,kT,zpC,zm5] [.pt]
def kY:FS:=AD 139 [.v (.l (.st 4))] (.v (.l (.st 4))) (λx=>SQ x.1) [] [.sp [.l (.st 4), .i .i64]]
def aK:FS:=AD 106 [.v (.l .s)] (.v (.l .s)) (λx=>I9 x.1) [] []
def zlw:FS:=AD 140 [.v (.st 5)] (.v (.st 5)) (λx=>UU x.1) [aK] []
def zpT:FS:=AD 102 [.v (.st 7)] (.v (.st 7)) (λx=>VX x.1) [kY,zlw] [.sp [.i .i64, .l (.st 5)]]
def jQ:FS:=AD 103 [.v (.st 7), .v (.i .i64)] (.tu (.cons (.v (.st 5)) (.cons (.v .b) .nil))) (λx=>KH x.1 x.2.1) [] [.sp [.i .i64]]
def zS:FS:=AD 104 [.v (.st 7), .v (.i .i64)] (.tu (.cons (.v (.st 6)) (.cons (.v .b) .nil))) (λx=>Vn x.1 x.2.1) [] [.sp [.i .i64]]
def zll:FS:=AD 105 [.v (.l (.st 5)), .v (.st 5)] (.v (.l (.st 5))) (λx=>U2 x.1 x.2.1) [] [.sp [.i .i64]]
def zmx:FS:=AD 156 [.v (.l (.st 1)), .v .s] (.v .b) (λx=>Sp x.1 x.2.1) [] [.sp [.i .i64]]
def zpZ:FS:=AD 157 [.v (.l .s), .v .s] (.v .b) (λx=>VR x.1 x.2.1) [] [.sp [.i .i64]]
def jU:FS:=AD 141 [.v (.st 5), .v (.l .s), .v (.l (.st 1))] (.v .b) (λx=>Pl x.1 x.2.1 x.2.2.1) [zmx,zpZ] [.sp [.i .i64], .sp [.i .i64]]
def zp3:FS:=AD 158 [.v (.l .s), .v .s] (.v (.l .s)) (λx=>SA x.1 x.2.1) [aK] [.sp [.i .i64]]
def lI:FS:=AD 152 [.v (.l (.st 4)), .v .s] (.v (.i .i64)) (λx=>SP x.1 x.2.1) [] [.sp [.i .i64]]
def kG:FS:=AD 142 [.v (.st 7), .v (.l (.st 1))] (.v .b) (λx=>SF x.1 x.2.1) [zp3,lI] [.sp [.l .s, .i .i64], .sp [.i .i64, .l (.st 1)], .sp [.l .s, .i .i64]]
def zn5:FS:=AD 107 [.v (.st 7), .v (.l .s), .v (.l (.st 1))] (.v .b) (λx=>VA x.1 x.2.1 x.2.2.1) [kG,jU] [.sp [.i .i64]]
def aJ:FS:=AD 129 [.v (.l (.st 4)), .v .s] (.v (.i .i64)) (λx=>NL x.1 x.2.1) [lI] []
def zpc:FS:=AD 150 [.v (.st 4)] (.v .b) (λx=>VZ x.1) [aW,KK,kT,aP] [.sp [.i .i64]]
def kR:FS:=AD 127 [.v (.l (.st 4))] (.v .b) (λx=>SB x.1) [zpc] [.sp [.i .i64]]
def zqN:FS:=AD 108 [.v (.l (.st 4)), .v (.l (.st 1)), .v (.i .i64)] (.tu (.cons (.v (.l (.st 4))) (.cons (.v .b) .nil))) (λx=>VI x.1 x.2.1 x.2.2.1) [kY,kR,aJ] [.sp [.i .i64, .l (.st 4)], .inl, .sp [.i .i64]]
def kD:FS:=AD 23 [.v (.i .i64), .v (.i .i64)] (.v (.i .i64)) (λx=>L1 x.1 x.2.1) [] []
def znZ:FS:=AD 109 [.v (.l (.st 5)), .v (.i .i64)] (.v (.l (.st 5))) (λx=>SH x.1 x.2.1) [] [.sp [.l (.st 5), .i .i64], .inl]
def zK:FS:=AD 110 [.v (.l (.st 6)), .v (.st 6)] (.v (.l (.st 6))) (λx=>Sg x.1 x.2.1) [] [.sp [.i .i64]]
def zmv:FS:=AD 64 [.v (.st 7), .v (.st 2)] (.tu (.cons (.v (.st 7)) (.cons (.v .b) .nil))) (λx=>Vf x.1 x.2.1) [zpT,jQ,zS,aK,zll,zn5,zqN,kD,znZ,zK] [.inl]
def zqw:FS:=AD 36 [.v (.l (.st 2))] (.tu (.cons (.v (.st 7)) (.cons (.v (.l .b)) .nil))) (λx=>V4 x.1) [zmv] [.sp [.l .b, .i .i64, .i .i64, .l (.st 4), .l (.st 5), .l (.st 6)], .inl]
def zoe:FS:=AD 13 [.v (.l (.st 2))] (.tu (.cons (.v (.st 7)) (.cons (.v (.l .b)) (.cons (.v .b) .nil)))) (λx=>Vv x.1) [zqw,kF] [.sp [.i .i64]]
def zn8:FS:=AD 5 [.v (.l (.i .u8)), .v (.i .i64)] (.v (.l (.st 7))) (λx=>Vx x.1 x.2.1) [zoe,nA] [.sp [.i .i64, .l (.st 7)], .sp [.i .i64, .i .i64, .l (.st 2)], .pt, .inl]
def KG:FS:=AD 37 [.v (.i .i64), .v (.i .i64), .v (.i .i64)] (.v .b) (λx=>Ie x.1 x.2.1 x.2.2.1) [] []
def SC:FS:=AD 14 [.v (.i .i64)] (.v .b) (λx=>Ic x.1) [KG] []
def yI:FS:=Ga 65 [.v (.l (.st 7)), .fn [.st 7] .b] (.v (.i .i64)) (λx=>Jb x.1 (λy=>x.2.1.φ (y,()))) λx r hp h=>Ji (f:=65) (t:=Qz 4) (by kernel_rfl) (by kernel_rfl) (WN (av:=(B2 Dc.av (.st 7))) (cn:=4) (λ_=>⟨_,rfl,rfl⟩) h (λy b hb=>hp.2.1 (y,()) b hb))
def yE:FS:=Ga 38 [.v (.l (.st 7)), .fn [.st 7] .b] (.v .b) (λx=>EJ x.1 (λy=>x.2.1.φ (y,()))) λx r hp h=>Ji (f:=38) (t:=Qx 65) (by kernel_rfl) (by kernel_rfl) (WK h λr hr=>yI.ok x r hp hr)
def aH:FS:=AD 86 [.v (.i .i64)] (.v .b) (λx=>JE x.1) [KG] []
def zA:FS:=AD 153 [.v (.i .u8)] (.v .b) (λx=>Zy x.1) [] []
def zI:FS:=AD 154 [.v .s, .v (.i .u8)] (.v (.i .i64)) (λx=>ZB x.1 x.2.1) [yR] []
def kB:FS:=AD 131 [.v .s, .v .s] (.v .b) (λx=>Sq x.1 x.2.1) [zA,zI] [.sp [.i .i64]]
def zn3:FS:=AD 130 [.v .s] (.v .b) (λx=>Vu x.1) [kB] []
def Z6:FS:=AD 87 [.v .s, .v .b] (.v .b) (λx=>Pm x.1 x.2.1) [zn3] []
def zpG:FS:=AD 51 [.v (.st 4)] (.v .b) (λx=>V0 x.1) [KG,aH,Z6] [.sp [.i .i64]]
def kM:FS:=AD 88 [.v .s] (.v .b) (λx=>Sk x.1) [KG,kB] []
def aE:FS:=AD 52 [.v (.l .s)] (.v .b) (λx=>NC x.1) [kM] [.sp [.i .i64]]
def jX:FS:=AD 26 [.v (.l (.st 4))] (.v .b) (λx=>Sz x.1) [aE,zpG] [.sp [.i .i64, .l .s]]
def zJ:FS:=AD 112 [.v (.st 5)] (.v (.st 2)) (λx=>ZS x.1) [] []
def lA:FS:=AD 68 [.v (.i .i64)] (.v .b) (λx=>NK x.1) [KG] []
def z7:FS:=AD 133 [.v (.l (.st 1))] (.v (.l .s)) (λx=>Vo x.1) [] [.sp [.i .i64, .l .s]]
def jL:FS:=Ga 60 [.v (.l (.st 1)), .fn [.st 1] .b] (.v (.i .i64)) (λx=>Jb x.1 (λy=>x.2.1.φ (y,()))) λx r hp h=>Ji (f:=60) (t:=Qz 3) (by kernel_rfl) (by kernel_rfl) (WN (av:=(B2 Dc.av (.st 1))) (cn:=3) (λ_=>⟨_,rfl,rfl⟩) h (λy b hb=>hp.2.1 (y,()) b hb))
def UH:FS:=Ga 91 [.v (.l (.st 1)), .fn [.st 1] .b] (.v .b) (λx=>EJ x.1 (λy=>x.2.1.φ (y,()))) λx r hp h=>Ji (f:=91) (t:=Qx 60) (by kernel_rfl) (by kernel_rfl) (WK h λr hr=>jL.ok x r hp hr)
def zH:FS:=AD 134 [.v (.st 1)] (.v .b) (λx=>U6 x.1) [Z6] []
def yZ:FS:=Hy zH λ_=>by kernel_rfl
def jS:FS:=AD 90 [.v (.l (.st 1))] (.v .b) (λx=>Se x.1) [z7,aE,UH,yZ] []
def zoa:FS:=AD 111 [.v (.st 2)] (.v .b) (λx=>Vs x.1) [lA,aH,KG,aE,jS] [.pt]
def yJ:FS:=Ga 143 [.v (.l (.st 5)), .fn [.st 5] .b] (.v (.i .i64)) (λx=>Jb x.1 (λy=>x.2.1.φ (y,()))) λx r hp h=>Ji (f:=143) (t:=Qz 5) (by kernel_rfl) (by kernel_rfl) (WN (av:=(B2 Dc.av (.st 5))) (cn:=5) (λ_=>⟨_,rfl,rfl⟩) h (λy b hb=>hp.2.1 (y,()) b hb))
def yD:FS:=Ga 113 [.v (.l (.st 5)), .fn [.st 5] .b] (.v .b) (λx=>EJ x.1 (λy=>x.2.1.φ (y,()))) λx r hp h=>Ji (f:=113) (t:=Qx 143) (by kernel_rfl) (by kernel_rfl) (WK h λr hr=>yJ.ok x r hp hr)
def yA:FS:=AD 96 [.v (.l (.st 1)), .v .s, .fn [.st 1, .s] (.i .i64)] (.tu (.cons (.v (.i .i64)) (.cons (.v .b) .nil))) (λx=>Zp x.1 x.2.1 (λy0 y1=>x.2.2.1.φ (y0,y1,()))) [] [.sp [.i .i64, .i .i64]]
def zD:FS:=AD 81 [.v .s] (.v .b) (λx=>Si x.1) [] []
def Zx:FS:=AD 46 [.v .s, .v .s] (.v (.i .i64)) (λx=>O9 x.1 x.2.1) [zD] []
def zQ:FS:=AD 97 [.v (.st 1), .v .s] (.v (.i .i64)) (λx=>O8 x.1 x.2.1) [Zx] []
def zE:FS:=Hy zQ λ_=>by kernel_rfl
def jY:FS:=AD 58 [.v (.l (.st 1)), .v .s] (.tu (.cons (.v (.i .i64)) (.cons (.v .b) .nil))) (λx=>Nx x.1 x.2.1) [yA,zE] []
def yP:FS:=AD 163 [.v (.l .s), .v .s] (.v (.i .i64)) (λx=>UF x.1 x.2.1) [] [.sp [.i .i64]]
def yL:FS:=AD 160 [.v (.l .s), .v .s] (.v .b) (λx=>UI x.1 x.2.1) [yP] []
def z8:FS:=AD 159 [.v (.st 1), .rf (.l (.st 1)), .rf (.l .s)] (.v .b) (λx=>aB x.1 x.2.1 x.2.2.1) [jY,yL] []
def zlm:FS:=Hy z8 λ_=>by kernel_rfl
def znY:FS:=AD 144 [.v (.l (.st 1)), .v (.l .s), .v (.l (.st 1))] (.v .b) (λx=>SJ x.1 x.2.1 x.2.2.1) [UH,zlm] []
def zrx:FS:=AD 115 [.v (.st 5), .v (.st 5)] (.v .b) (λx=>aS x.1 x.2.1) [znY] []
def yT:FS:=AD 114 [.v (.st 5), .rf (.st 5)] (.v .b) (λx=>Sb x.1 x.2.1) [zrx] []
def yY:FS:=Hy yT λ_=>by kernel_rfl
def yB:FS:=AD 147 [.v (.l (.st 4)), .v .s, .fn [.st 4, .s] (.i .i64)] (.tu (.cons (.v (.i .i64)) (.cons (.v .b) .nil))) (λx=>UL x.1 x.2.1 (λy0 y1=>x.2.2.1.φ (y0,y1,()))) [] [.sp [.i .i64, .i .i64]]
def zlq:FS:=AD 148 [.v (.st 4), .v .s] (.v (.i .i64)) (λx=>Nv x.1 x.2.1) [Zx] []
def zP:FS:=Hy zlq λ_=>by kernel_rfl
def kA:FS:=AD 118 [.v (.l (.st 4)), .v .s] (.tu (.cons (.v (.i .i64)) (.cons (.v .b) .nil))) (λx=>Sr x.1 x.2.1) [yB,zP] []
def kC:FS:=AD 67 [.v (.l (.st 4)), .v .s] (.v (.i .i64)) (λx=>Sm x.1 x.2.1) [kA] []
def yU:FS:=AD 116 [.v (.st 1), .rf (.st 5), .rf (.st 7)] (.v .b) (λx=>Sa x.1 x.2.1 x.2.2.1) [kC] []
def yW:FS:=Hy yU λ_=>by kernel_rfl
def zG:FS:=AD 117 [.v (.st 7), .v (.l (.st 5))] (.v .b) (λx=>U8 x.1 x.2.1) [yO,yM,kA] [.sp [.i .i64, .l .s], .sp [.i .i64, .l .s], .sp [.i .i64, .l .s], .inl]
def zC:FS:=AD 66 [.v (.st 7)] (.v .b) (λx=>UQ x.1) [zG,zJ,zoa,yD,yY,UH,yW] [.sp [.i .i64]]
def x7:FS:=AD 119 [.v (.l (.st 5)), .v (.i .i64), .fn [.st 5, .i .i64] (.i .i64)] (.tu (.cons (.v (.i .i64)) (.cons (.v .b) .nil))) (λx=>UM x.1 x.2.1 (λy0 y1=>x.2.2.1.φ (y0,y1,()))) [] [.sp [.i .i64, .i .i64]]
def zU:FS:=AD 80 [.v (.i .i64)] (.v .b) (λx=>Sv x.1) [] []
def jN:FS:=AD 45 [.v (.i .i64), .v (.i .i64)] (.v (.i .i64)) (λx=>O6 x.1 x.2.1) [zU] []
def yX:FS:=AD 120 [.v (.st 5), .v (.i .i64)] (.v (.i .i64)) (λx=>Ns x.1 x.2.1) [jN] []
def yS:FS:=Hy yX λ_=>by kernel_rfl
def yV:FS:=AD 69 [.v (.st 7), .v (.i .i64)] (.tu (.cons (.v (.i .i64)) (.cons (.v .b) .nil))) (λx=>Nt x.1 x.2.1) [x7,yS] []
def z6:FS:=AD 40 [.v (.st 7)] (.v .b) (λx=>Vr x.1) [SC,jX,zC,KG,lA,yV,kC] [.sp [.i .i64], .sp [.i .i64]]
def zR:FS:=AD 39 [.v (.st 7)] (.v .b) (λx=>ZH x.1) [z6] []
def zF:FS:=Hy zR λ_=>by kernel_rfl
def zY:FS:=AD 15 [.v (.l (.st 7))] (.v .b) (λx=>Vk x.1) [KG,yE,zF] []
def zB:FS:=AD 41 [.v (.st 7)] (.v (.i .i64)) (λx=>UR x.1) [] [.sp [.i .i64, .i .i64]]
def zp9:FS:=AD 16 [.v (.l (.st 7))] (.v (.i .i64)) (λx=>VW x.1) [zB] [.sp [.i .i64, .i .i64]]
def zqa:FS:=AD 44 [.v (.l (.i .i64))] (.v (.i .i64)) (λx=>VS x.1) [] [.sp [.i .i64]]
def jO:FS:=AD 19 [.v (.st 0), .v (.st 0)] (.v (.i .i64)) (λx=>U9 x.1 x.2.1) [jN,Zx,zqa] []
def jP:FS:=Hy jO λ_=>by kernel_rfl
def znW:FS:=AD 17 [.v (.st 7), .v (.i .i64), .v (.i .i64), .v (.i .i64)] (.v (.l (.st 0))) (λx=>SI x.1 x.2.1 x.2.2.1 x.2.2.2.1) [jJ,jP] [.sp [.i .i64, .l (.st 0)], .sp [.i .i64, .l (.st 0)], .inl]
def kQ:FS:=AD 20 [.v (.l (.st 0))] (.v .b) (λx=>Pw x.1) [jO] [.sp [.i .i64]]
def zmG:FS:=AD 6 [.v (.st 8), .v (.l (.st 7))] (.tu (.cons (.v (.st 8)) (.cons (.v (.l (.st 0))) (.cons (.v .b) .nil)))) (λx=>Vc x.1 x.2.1) [SC,zY,zp9,jJ,jP,kQ,znW] [.sp [.i .i64, .l (.st 0)]]
def zpz:FS:=AD 126 [.v (.i .i64)] (.v .b) (λx=>aG x.1) [KK] []
def zlp:FS:=AD 151 [.v (.st 5)] (.v (.st 2)) (λx=>Z3 x.1) [] []
def znQ:FS:=AD 128 [.v (.st 7)] (.v .b) (λx=>VD x.1) [kG,zlp,kF,aJ,jU] [.sp [.i .i64], .sp [.i .i64], .sp [.i .i64]]
def znR:FS:=AD 82 [.v (.st 7)] (.v .b) (λx=>Vy x.1) [zpz,kR,znQ,KK,jQ,aJ] [.sp [.i .i64], .sp [.i .i64]]
def kK:FS:=AD 48 [.v (.i .i64), .v (.i .i64)] (.v (.i .i64)) (λx=>SD x.1 x.2.1) [] []
def zlt:FS:=AD 83 [.v (.st 7)] (.v (.i .i64)) (λx=>UX x.1) [kK] [.sp [.i .i64, .i .i64]]
def zZ:FS:=AD 47 [.v (.st 7)] (.tu (.cons (.v (.i .i64)) (.cons (.v .b) .nil))) (λx=>Vp x.1) [znR,zlt] []
def zpw:FS:=AD 21 [.v (.l (.st 7))] (.tu (.cons (.v (.i .i64)) (.cons (.v .b) .nil))) (λx=>VQ x.1) [KK,zZ,kK] [.sp [.i .i64, .i .i64]]
def jV:FS:=AD 85 [.v (.st 0), .v (.st 0)] (.v .b) (λx=>Pg x.1 x.2.1) [] []
def kS:FS:=AD 50 [.v (.l (.st 0)), .v (.st 0)] (.tu (.cons (.v (.l (.st 0))) (.cons (.v .b) .nil))) (λx=>L2 x.1 x.2.1) [jV] [.sp [.i .i64]]
def zrA:FS:=AD 25 [.v (.l (.st 4)), .v (.i .i64), .v (.i .i64), .v (.i .i64)] (.v (.l (.st 0))) (λx=>SL x.1 x.2.1 x.2.2.1 x.2.2.2.1) [kS] [.sp [.l (.st 0), .i .i64], .sp [.l (.st 0), .i .i64], .inl]
def znT:FS:=AD 84 [.v (.st 0)] (.v .b) (λx=>VE x.1) [KK,aP] []
def znS:FS:=AD 49 [.v (.l (.st 0))] (.v .b) (λx=>SE x.1) [znT,jV] [.sp [.i .i64]]
def zma:FS:=AD 24 [.v (.l (.st 0)), .v (.l (.st 0))] (.tu (.cons (.v (.l (.st 0))) (.cons (.v .b) .nil))) (λx=>Sy x.1 x.2.1) [znS,kS] [.sp [.l (.st 0), .i .i64]]
def zm3:FS:=AD 7 [.v (.st 8), .v (.l (.st 7))] (.tu (.cons (.v (.st 8)) (.cons (.v (.l (.st 0))) (.cons (.v .b) .nil)))) (λx=>Vh x.1 x.2.1) [zpw,KK,kD,zrA,zma] [.sp [.l (.st 0), .i .i64]]
def zpK:FS:=AD 8 [.v (.l (.st 0)), .v (.l (.st 0))] (.v .b) (λx=>VO x.1 x.2.1) [] [.sp [.i .i64]]
def zof:FS:=AD 27 [.v (.l (.st 4)), .v (.i .i64)] (.v (.l (.st 1))) (λx=>Vw x.1 x.2.1) [zV] [.sp [.i .i64, .l (.st 1)], .inl]
def zo1:FS:=AD 10 [.v (.l (.st 4)), .v (.i .i64)] (.tu (.cons (.v (.st 9)) (.cons (.v .b) .nil))) (λx=>SO x.1 x.2.1) [jX,SC,zof] []
def zm7:FS:=AD 92 [.v (.st 1)] (.v .b) (λx=>Va x.1) [] []
def zT:FS:=Hy zm7 λ_=>by kernel_rfl
def zp6:FS:=AD 54 [.v (.l (.st 1))] (.v .b) (λx=>VU x.1) [jS,UH,zT] []
def znE:FS:=AD 28 [.v (.st 9)] (.v .b) (λx=>Sl x.1) [SC,zp6] []
def yF:FS:=Ga 95 [.v (.l (.st 0)), .fn [.st 0] .b] (.v (.i .i64)) (λx=>Jb x.1 (λy=>x.2.1.φ (y,()))) λx r hp h=>Ji (f:=95) (t:=Qz 5) (by kernel_rfl) (by kernel_rfl) (WN (av:=(B2 Dc.av (.st 0))) (cn:=5) (λ_=>⟨_,rfl,rfl⟩) h (λy b hb=>hp.2.1 (y,()) b hb))
def jK:FS:=Ga 56 [.v (.l (.st 0)), .fn [.st 0] .b] (.v .b) (λx=>EJ x.1 (λy=>x.2.1.φ (y,()))) λx r hp h=>Ji (f:=56) (t:=Qx 95) (by kernel_rfl) (by kernel_rfl) (WK h λr hr=>yF.ok x r hp hr)
def zoc:FS:=AD 135 [.v (.i .i64)] (.v .b) (λx=>aQ x.1) [KG] []
def zmL:FS:=AD 94 [.v (.st 0)] (.v .b) (λx=>Vb x.1) [aH,zoc,kM,Z6] []
def zld:FS:=AD 93 [.v (.st 0)] (.v .b) (λx=>Z0 x.1) [zmL] []
def zL:FS:=Hy zld λ_=>by kernel_rfl
def zmU:FS:=AD 55 [.v (.l (.st 0))] (.v .b) (λx=>Vg x.1) [kQ,jK,zL] []
def zO:FS:=AD 57 [.v (.st 0), .rf (.st 10)] (.v .b) (λx=>ZW x.1 x.2.1) [] []
def zM:FS:=Hy zO λ_=>by kernel_rfl
def zmK:FS:=AD 29 [.v (.st 10)] (.v .b) (λx=>Ve x.1) [SC,zmU,jK,zM] []
def yH:FS:=Ga 30 [.v (.l (.st 1))] (.v (.l (.st 1))) (λx=>Zr x.1) λx r hp h=>Ji (f:=30) (t:=fD 40 3) (by kernel_rfl) (by kernel_rfl) (zvH (bytes:=40) (sz:=3) (av:=(B2 Dc.av (.st 1))) (λx=>⟨WQ _ x,Wi (by kernel_rfl) x⟩) h)
def znj:FS:=AD 31 [.v (.l (.st 1)), .v (.st 1)] (.v (.l (.st 1))) (λx=>Vd x.1 x.2.1) [jY,yG] []
def yC:FS:=Ga 32 [.v (.l (.st 1)), .fn [.st 1] .b] (.v (.l (.st 1))) (λx=>VH x.1 (λy=>x.2.1.φ (y,()))) λx r hp h=>Ji (f:=32) (t:=fL 60 3 true (.mk (.cons (.fld (.fld (.idx (.var 5) (.var 4)) 0 3 true) 0 1 false) (.cons (.fld (.fld (.idx (.var 5) (.var 4)) 0 3 true) 1 1 false) (.cons (.fld (.fld (.idx (.var 5) (.var 4)) 0 3 true) 2 1 false) .nil)))) [(.agg (.fld (.idx (.var 5) (.var 4)) 0 3 true) 3)] (.mk (.cons (.str (ByteArray.mk #[])) (.cons (.str (ByteArray.mk #[])) (.cons (.bool false) .nil))))) (by kernel_rfl) (by kernel_rfl) (zyh (av:=(B2 Dc.av (.st 1))) (λx=>⟨WQ _ x,Wi (by kernel_rfl) x,λ_=>⟨_,rfl⟩,λe=>nomatch e⟩) (by decide) (λa b c d j ys x tl hj=>by simp[AV.nth,hj,B2,R5]) (λa b c d j ys x hj=>by simp[AV.nth,hj,B2,R5]) h (λi hi=>jL.ok x i hp hi) (λy b hb=>hp.2.1 (y,()) b hb))
def zX:FS:=AD 33 [.v (.st 1)] (.v .b) (λx=>aD x.1) [] []
def zN:FS:=Hy zX λ_=>by kernel_rfl
def zob:FS:=AD 11 [.v (.st 9), .v (.st 10)] (.tu (.cons (.v (.st 9)) (.cons (.v .b) .nil))) (λx=>Vt x.1 x.2.1) [znE,zmK,yH,yC,zN,znj] [.sp [.i .i64, .l (.st 1)]]
def zrs:FS:=AD 34 [.v (.l (.st 1)), .v (.l (.st 1))] (.v .b) (λx=>VN x.1 x.2.1) [] [.sp [.i .i64]]
def zq1:FS:=AD 12 [.v (.st 9), .v (.st 9)] (.v .b) (λx=>V5 x.1 x.2.1) [zrs] []
def jW:FS:=AD 3 [.v (.l (.i .u8))] (.v .b) (λx=>Vq x.1) [zrD,zn8,zmG,zm3,zpK,nA,zo1,zob,zq1] [.sp [.i .i64, .l (.st 0)], .inl]
theorem zlZ(a0:List Int)(r:Bool)(h:Vq a0=some r):Cg Tryz.prog Cd 3 [.sl (a0.map Ux)] (.bool r):=jW.ok (a0,()) r (by simp[jW,AD,HY,R9]) h
theorem foldl_map{α β:Type}(f:α->β)(l:List α)(o:List β):l.foldl (λo x=>o++ [f x]) o=o++l.map f:=by
 induction l generalizing o with
 |nil=>simp
 |cons x l ih=>rw[List.foldl_cons,ih];simp
theorem s4{n:Nat}{body:Int->Option (Int ⊕ Option Bool)}(hs:∀i:Nat,i<n->body i=some (.inl ((i+1:Nat):Int)))(he:body n=some (.inr (some true))):AG body 0=some true:=by have h:=NR (n:=n) (body:=body) (λ_=>true) false (some true) (λi hi=>by rw[hs i hi,if_pos rfl]) he;rw[h,if_pos (by simp)]
abbrev Az:=Au
def Bq(a b c:Int):Bool:=decide (a>=b)&&decide (a<=c)
theorem Ij{a b c:Int}:Bq a b c=true↔b<=a/\a<=c:=by simp[Bq]
@[simp] theorem Md(a b c:Int):Fy a b c=some (Bq a b c):=rfl
@[simp] theorem KQ(a b c:Int):Ie a b c=some (Bq a b c):=rfl
def Jh(b:UInt8):Bool:=(decide ((b.toNat:Int)>=97)&&decide ((b.toNat:Int)<=122))||(decide ((b.toNat:Int)>=48)&&decide ((b.toNat:Int)<=57))
def P6(s more:Az):Bool:=s.all λb=>Jh b||more.contains b
theorem xC{a b:UInt8}:((a.toNat:Int)==(b.toNat:Int))=(a==b):=by
 rw[Bool.eq_iff_iff];simp only[AJ];constructor
 ·intro h;exact UInt8.toNat_inj.1 (by omega)
 ·rintro rfl;rfl
theorem oQ{α:Type}(xs:List α)(p:α->Bool)(q:Nat->Bool)(h:∀(i:Nat) (hi:i<xs.length),q i=p xs[i]):(List.range xs.length).all q=xs.all p:=by
 rw[Bool.eq_iff_iff];simp only[A7,List.mem_range];constructor
 ·intro hq x hx;obtain⟨i,hi,rfl⟩:=List.getElem_of_mem hx;rw[<-h i hi];exact hq i hi
 ·intro hp i hi;rw[h i hi];exact hp _ (AO hi)
theorem qC{α β:Type}{xs:List α}{body:Int->Option (Int ⊕ Option β)}(p:α->Bool)(b:β)(fin:Option β)
  (hs:∀(i:Nat) (hi:i<xs.length),body i=some (if p xs[i]=true then .inl ((i+1:Nat):Int)else .inr (some b))) (he:body xs.length=some (.inr fin)):AG body 0=if xs.all p=true then fin else some b:=by
 rw[NR (n:=xs.length) (λi=>match xs[i]? with|some x=>p x|none=>true) b fin (λi hi=>by rw[hs i hi];simp[hi]) he,
  oQ xs p _ λi hi=>by simp[hi]]
theorem nR{s more:Az}(h1:s.length<=2000000)(h2:more.length<=2000000):SG s more=some (P6 s more):=by
 unfold SG;rw[qC (xs:=s) (λb=>Jh b||more.contains b) false (some true) ?_ (by simp[ZX])]
 ·unfold P6;cases(s.all λb=>Jh b||more.contains b)<;>rfl
 ·intro i hi;have Cc:AG (λt:Bool × Int=>Sh more i s[i] t.1 t.2) (Jh s[i],0)=some (if(Jh s[i]||more.contains s[i])=true then .inl ((i+1:Nat):Int)else .inr (some false)):=by
   have hl:=Wn (xs:=more) (body:=λt:Bool × Int=>Sh more i s[i] t.1 t.2) (λk (ok:Bool)=>(ok,k)) (λb ok=>some (.inl (ok||s[i]==b))) (λok=>ZT i ok)
    (λk hk ok=>by simp only[Sh,Int.ofNat_lt,hk,decide_true,if_true,AW hk,Aa,D9 hk (by omega:more.length<=_),xC,Om];cases ok<;>simp) (λok=>by simp[Sh]) (Jh s[i])
   rw[zwm (λok b=>ok||s[i]==b) (λ_=>True) (λ_ _ _ _=>trivial) (λ_ _ _ _=>rfl) trivial]at hl;have hf:∀(l:Az) (ok:Bool),l.foldl (λok b=>ok||s[i]==b) ok=(ok||l.contains s[i]):=by
    intro l
    induction l with
    |nil=>intro ok;simp
    |cons c l ih=>intro ok;rw[List.foldl_cons,ih,List.contains_cons,Bool.or_assoc]
   rw[hl,hf];unfold ZT;rw[D9 hi (by omega)];cases(Jh s[i]||more.contains s[i])<;>rfl
  simp only[ZX,Int.ofNat_lt,hi,decide_true,if_true,AW hi,Aa];exact Cc
theorem zpq(l:Az)(c:UInt8):decide (Lib.indexByte l c<0)= !l.contains c:=by
 induction l with
 |nil=>rfl
 |cons b l ih=>
  unfold Lib.indexByte;have Ua:=Lib.indexByte_ge l c;rw[List.contains_cons];by_cases hb:b=c
  ·subst hb;simp
  ·have h1:(b==c)=false:=by simpa using hb
   have h2:(c==b)=false:=by simpa using λh=>hb h.symm
   rw[h1,h2];simp only[Bv,if_false,Bool.false_or];rw[<-ih];by_cases hm:Lib.indexByte l c= -1
   ·simp[hm]
   ·have h3:(Lib.indexByte l c== -1)=false:=by simpa using hm
    rw[h3];simp only[Bv,if_false];rw[decide_eq_decide];omega
theorem nG{s more:Az}(h1:s.length<=2000000):Sq s more=some (P6 s more):=by
 unfold Sq;rw[qC (xs:=s) (λb=>Jh b||more.contains b) false (some true) ?_ (by simp[ZF])]
 ·unfold P6;cases(s.all λb=>Jh b||more.contains b)<;>rfl
 ·intro i hi;have hu:((s[i].toNat:Int)).toNat.toUInt8=s[i]:=by simp
  simp only[ZF,Int.ofNat_lt,hi,decide_true,if_true,AW hi,Aa,Zy,ZB,UK,hu,zpq,D9 hi (by omega:s.length<=_)];rw[show((decide ((s[i].toNat:Int)>=97)&&decide ((s[i].toNat:Int)<=122))||(decide ((s[i].toNat:Int)>=48)&&decide ((s[i].toNat:Int)<=57)))=Jh s[i]from rfl];cases Jh s[i]<;>cases more.contains s[i]<;>rfl
def CZ(s:Az):Bool:=Bq s.length 1 12&&P6 s [46,47]
def N6(s:Az):Bool:=decide ((s.length:Int)<=24)&&P6 s [46,45,44,95]
theorem Xc{s:Az}(h:s.length<=2000000):Py s=some (CZ s):=by simp only[Py,Md,Aa,nR h (more:=[46,47]) (by decide),CZ];cases Bq s.length 1 12<;>simp
theorem sB{s:Az}(h:s.length<=2000000):Sk s=some (CZ s):=by simp only[Sk,KQ,Aa,nG h,CZ];cases Bq s.length 1 12<;>simp
theorem xS{s:Az}(h:s.length<=2000000):VM s=some (N6 s):=by simp only[VM,Aa,nR h (more:=[46,45,44,95]) (by decide),N6];by_cases hl:(s.length:Int)<=24<;>simp[hl]
theorem zzA{s:Az}(h:s.length<=2000000):Vu s=some (N6 s):=by simp only[Vu,Aa,nG h,N6];by_cases hl:(s.length:Int)<=24<;>simp[hl]
def FB(v:Az)(GO:Bool):Bool:=N6 v&&(!GO||v==[])
theorem Ws{v:Az}{GO:Bool}(h:v.length<=2000000):Pm v GO=some (FB v GO):=by simp only[Pm,zzA h,Aa,FB,bne];cases N6 v<;>cases GO<;>cases(v==[])<;>rfl
theorem WI{k v:Az}{GO:Bool}(hk:k.length<=2000000)(hv:v.length<=2000000):Px k v GO=some (CZ k&&FB v GO):=by simp only[Px,Xc hk,xS hv,Aa,FB];cases CZ k<;>simp
def GF(ks:List Az)(i:Nat):Bool:=i==0||Op.bytesLess ((ks[i-1]?).getD []) ((ks[i]?).getD [])
def Mh(ks:List Az):Bool:=(List.range ks.length).all (GF ks)
theorem S8:∀(a b:Az),(Op.bytesLess a b||a==b)= !Op.bytesLess b a
 | [],[]=>rfl
 | [],_::_=>rfl
 |_::_,[]=>rfl
 |x::a,y::b=>by
  have ih:=S8 a b;simp only[Op.bytesLess];rcases Nat.lt_trichotomy x.toNat y.toNat with h|h|h
  ·have h1:x<y:=UInt8.lt_iff_toNat_lt.2 h;have h2: ¬y<x:=λh'=>by have:=UInt8.lt_iff_toNat_lt.1 h';omega
   have h3: ¬y=x:=λh'=>by subst h';omega
   simp[h1,h2,h3]
  ·have h0:x=y:=UInt8.toNat_inj.1 h;subst h0;have h1: ¬x<x:=λh'=>by have:=UInt8.lt_iff_toNat_lt.1 h';omega
   rw[show((x::a)==(x::b))=(a==b) by simp];simp only[h1,decide_false,Bool.false_or,beq_self_eq_true,Bool.true_and];exact ih
  ·have h1: ¬x<y:=λh'=>by have:=UInt8.lt_iff_toNat_lt.1 h';omega
   have h2:y<x:=UInt8.lt_iff_toNat_lt.2 h;have h3: ¬x=y:=λh'=>by subst h';omega
   simp[h1,h2,h3]
theorem KS{i:Nat}(h0:0<i)(h:i<=2000000):IntKind.i64.wrap ((i:Int)-1)=((i-1:Nat):Int):=by rw[CS (by omega) (by omega)];omega
theorem eS{α:Type}(xs:List α)(p:α->Bool)(q r:Nat->Bool)(h:∀(i:Nat) (hi:i<xs.length),r i=(p xs[i]&&q i)):(List.range xs.length).all r=(xs.all p&&(List.range xs.length).all q):=by
 rw[<-oQ xs p (λi=>match xs[i]? with|some x=>p x|none=>true) λi hi=>by simp[hi]];rw[Bool.eq_iff_iff];simp only[Ab,A7,List.mem_range];constructor
 ·intro hr;exact⟨λi hi=>by have:=hr i hi;rw[h i hi,Ab]at this;simpa[hi]using this.1,λi hi=>by have:=hr i hi;rw[h i hi,Ab]at this;exact this.2⟩
 ·rintro⟨h1,h2⟩ i hi;rw[h i hi,Ab];exact⟨by have:=h1 i hi;simpa[hi]using this,h2 i hi⟩
theorem bE{ks:List Az}(h:ks.length<=2000000)(hk:∀k∈ks,k.length<=2000000):NC ks=some (ks.all CZ&&Mh ks):=by
 unfold NC Mh;rw[NR (n:=ks.length) (λi=>CZ ((ks[i]?).getD [])&&GF ks i) false (some true) ?_ (by simp[ZL]),eS ks CZ (GF ks) _ λi hi=>by simp[hi]]
 ·cases(ks.all CZ&&(List.range ks.length).all (GF ks))<;>rfl
 ·intro i hi;simp only[ZL,Int.ofNat_lt,hi,decide_true,if_true,AW hi,Aa,sB (hk _ (AO hi)),D9 hi (by omega:ks.length<=_),BH hi,CR,GF];by_cases h0:i=0
  ·subst h0;cases CZ ks[0]<;>simp
  ·have hp:(i:Int)>0:=by omega
   have Kp:i-1<ks.length:=by omega
   have hb:(i==0)=false:=by simpa using h0
   simp only[hp,decide_true,if_true,KS (Nat.pos_of_ne_zero h0) (by omega:i<=2000000),AW Kp,Aa,S8,BH Kp,CR,hb,Bool.false_or];cases CZ ks[i]<;>cases Op.bytesLess ks[i-1] ks[i]<;>rfl
theorem zr4{l:List Ak}(h:l.length<=2000000):Vo l=some (l.map (·.ae)):=by
 have h1:=GD (xs:=l) (body:=λs:Int × List Az=>O5 l s.1 s.2) (λi (o:List Az)=>(i,o)) (λo w=>o++ [w.ae]) (λo=>some o) (λq o=>o.length=q)
  (λi hi o hI=>by
   refine⟨?_,by simp[hI]⟩;show O5 l i o=_;unfold O5;have hr:((o.length:Int)+(([l[i].ae]:List Az).length:Int))*16<=140737488355328/\(o.length:Int)+(([l[i].ae]:List Az).length:Int)<=140737488355328:=by rw[Bt,hI];omega
   rw[if_pos (by simpa using hi),AW hi,Aa,A8 hr,D9 hi (by omega)]) (λo _=>by
   show O5 l l.length o=_;unfold O5;rw[if_neg (by simp)]) (s:=[]) rfl
 have hf:∀(l:List Ak) (o:List Az),l.foldl (λo w=>o++ [w.ae]) o=o++l.map (·.ae):=by
  intro l
  induction l with
  |nil=>intro o;simp
  |cons w l ih=>intro o;rw[List.foldl_cons,ih];simp
 have h2:=h1.1;rw[hf,List.nil_append]at h2;unfold Vo;exact h2
def J1(w:Ak):Bool:=CZ w.ae&&FB w.a7 w.au
def HA(l:List Ak):Bool:=decide ((l.length:Int)<=24)&&(l.all J1&&Mh (l.map (·.ae)))
def JV(l:List Ak):Prop:=l.length<=2000000/\ ∀w∈l,w.ae.length<=2000000/\w.a7.length<=2000000
theorem oL{l:List Ak}(h:JV l):Se l=some (HA l):=by
 have e1:EJ l (λy0_=>U6 y0_)=some (l.any λw=> !FB w.a7 w.au):=Mb _ (λw hw=>by simp[U6,Ws (h.2 w hw).2]) (by have:=h.1;omega);have e2:=bE (ks:=l.map (·.ae)) (by simpa using h.1) (by simp only[List.mem_map];rintro k ⟨w,hw,rfl⟩;exact(h.2 w hw).1);simp only[Se,zr4 h.1,e1,e2,Aa,HA,<-List.not_all_eq_any_not];have e3:l.all J1=((l.map (·.ae)).all CZ&&l.all λw=>FB w.a7 w.au):=by
  rw[Bool.eq_iff_iff];simp only[A7,Ab,J1,List.mem_map];constructor
  ·intro h;exact⟨by rintro k ⟨w,hw,rfl⟩;exact(h w hw).1,λw hw=>(h w hw).2⟩
  ·rintro⟨h1,h2⟩ w hw;exact⟨h1 _ ⟨w,hw,rfl⟩,h2 w hw⟩
 rw[e3];generalize (l.map (·.ae)).all CZ=b1;generalize Mh (l.map (·.ae))=b2;generalize (l.all λw=>FB w.a7 w.au)=b3;by_cases hl:(l.length:Int)<=24<;>cases b1<;>cases b2<;>cases b3<;>simp[hl]
theorem zvO{l:List Ak}(h:JV l):Vj l=some (HA l):=by
 unfold Vj;have hn:=h.1;rw[NR (n:=l.length) (λi=>J1 ((l[i]?).getD ⟨[],[],false⟩)&&GF (l.map (·.ae)) i) false (ZE l) ?_ (by simp[ZU]),eS l J1 (GF (l.map (·.ae))) _ λi hi=>by simp[hi]]
 ·unfold ZE HA Mh;rw[List.length_map];cases(l.all J1&&(List.range l.length).all (GF (l.map (·.ae))))<;>simp
 ·intro i hi;have hm:=h.2 _ (AO hi);simp only[ZU,Int.ofNat_lt,hi,decide_true,if_true,AW hi,Aa,WI hm.1 hm.2,D9 hi (by omega:l.length<=_),BH hi,CR,GF,List.getElem?_map,Option.map_some];rw[show(CZ l[i].ae&&FB l[i].a7 l[i].au)=J1 l[i]from rfl];by_cases h0:i=0
  ·subst h0;cases J1 l[0]<;>simp
  ·have hp:(i:Int)>0:=by omega
   have Kp:i-1<l.length:=by omega
   have hb:(i==0)=false:=by simpa using h0
   simp only[hp,decide_true,if_true,KS (Nat.pos_of_ne_zero h0) (by omega:i<=2000000),AW Kp,Aa,BH Kp,Option.map_some,CR,hb,Bool.false_or];cases J1 l[i]<;>cases Op.bytesLess l[i-1].ae l[i].ae<;>rfl
def Td(l:List Ak):Bool:=HA l&&l.all λw=> !w.au
theorem zyv{l:List Ak}(h:JV l):VU l=some (Td l):=by have e1:EJ l (λy0_=>Va y0_)=some (l.any λw=> !!w.au):=Mb _ (λw hw=>by simp[Va]) (by have:=h.1;omega);simp only[VU,oL h,e1,Aa,Td,<-List.not_all_eq_any_not];cases HA l<;>simp
def Df{α:Type}(r:α->α->Bool):List α->Bool
 | []=>true
 | [_]=>true
 |x::y::l=>r x y&&Df r (y::l)
theorem L7{α:Type}{r:α->α->Bool}(ht:∀a b c,r a b=true->r b c=true->r a c=true):∀{l:List α},Df r l=true↔l.Pairwise λa b=>r a b=true
 | []=>by simp[Df]
 | [_]=>by simp[Df]
 |x::y::l=>by
  rw[Df,Ab,L7 ht];constructor
  ·rintro⟨h1,h2⟩;refine List.pairwise_cons.2 ⟨λz hz=> ?_,h2⟩;rcases Ad.1 hz with rfl|hz
   ·exact h1
   ·exact ht _ _ _ h1 ((List.pairwise_cons.1 h2).1 z hz)
  ·intro h;have h:=List.pairwise_cons.1 h;exact⟨h.1 y (by simp),h.2⟩
theorem mA{α:Type}{r:α->α->Bool}{l:List α}{q:Nat}(h:q+1<l.length):Df r (l.drop q)=(r l[q] l[q+1]&&Df r (l.drop (q+1))):=by rw[Be (show q<l.length by omega),Be h,Df]
theorem PV{α β:Type}{xs:List α}{body:Int->Option (Int ⊕ Option β)}(p:α->Bool)(r:α->α->Bool)(b:β)(fin:Option β)
  (h0:∀h:0<xs.length,body 0=some (if p xs[0]=true then .inl 1 else .inr (some b)))
  (hs:∀i (h:i+1<xs.length),body ((i+1:Nat):Int)=some (if(p xs[i+1]&&r xs[i] xs[i+1])=true then .inl ((i+2:Nat):Int)else .inr (some b)))
  (he:body xs.length=some (.inr fin)):AG body 0=if(xs.all p&&Df r xs)=true then fin else some b:=by
 have key:∀n q,q+1+n=xs.length->AG body ((q+1:Nat):Int)=if((xs.drop (q+1)).all p&&Df r (xs.drop q))=true then fin else some b:=by
  intro n
  induction n with
  |zero=>
   intro q hq;rw[show((q+1:Nat):Int)=(xs.length:Int) by omega,Eh,he];have e1:xs.drop (q+1)=[]:=List.drop_eq_nil_of_le (by omega);have e2:xs.drop q=[xs[q]]:=by rw[Be (by omega),e1]
   rw[e1,e2];simp[Df]
  |succ n ih=>
   intro q hq;rw[Eh,hs q (by omega),mA (by omega),Be (show q+1<xs.length by omega),List.all_cons];have ih:=ih (q+1) (by omega);by_cases hp:(p xs[q+1]&&r xs[q] xs[q+1])=true
   ·rw[if_pos hp];simp only[Ab]at hp;simp only[hp.1,hp.2,Bool.true_and];rw[<-Be (show q+1<xs.length by omega)];exact ih
   ·rw[if_neg hp];rw[if_neg];intro h;simp only[Ab]at h hp;exact hp ⟨h.1.1,h.2.1⟩
 by_cases hz:0<xs.length
 ·rw[Eh,h0 hz];have:=key (xs.length-1) 0 (by omega);rw[List.drop_zero]at this;have e:xs=xs[0]::xs.drop 1:=by rw[<-Be hz,List.drop_zero]
  by_cases hp:p xs[0]=true
  ·rw[if_pos hp];show AG body ((0+1:Nat):Int)=_;rw[this];have:xs.all p=(xs.drop 1).all p:=by rw[e,List.all_cons,hp,Bool.true_and];simp
   rw[this]
  ·rw[if_neg hp,if_neg];intro h;simp only[Ab,A7]at h;exact hp (h.1 _ (AO hz))
 ·have:xs=[]:=by cases xs with|nil=>rfl|cons=>simp at hz
  subst this;rw[Eh,show(0:Int)=(([]:List α).length:Int)from rfl,he];simp[Df]
def AM{α:Type}(lt:α->Bool)(l:List α):Nat:=(l.takeWhile lt).length
theorem KT{α:Type}(lt:α->Bool):∀l:List α,AM lt l<=l.length
 | []=>by simp[AM]
 |x::l=>by have:=KT lt l;unfold AM at this ⊢;rw[List.takeWhile_cons];split<;>simp<;>omega
theorem N5{α:Type}{lt:α->Bool}:∀{l:List α} {i:Nat} (h:i<AM lt l),lt (l[i]'(Nat.lt_of_lt_of_le h (KT lt l)))=true
 |x::l,i,h=>by
  unfold AM at h;rw[List.takeWhile_cons]at h;split at h
  ·rename_i hx;cases i with
   |zero=>exact hx
   |succ i=>exact N5 (l:=l) (i:=i) (by unfold AM;simpa using h)
  ·simp at h
theorem Qc{α:Type}{lt:α->Bool}:∀{l:List α} (h:AM lt l<l.length),lt l[AM lt l]=false
 |x::l,h=>by
  by_cases hx:lt x=true
  ·have e:AM lt (x::l)=AM lt l+1:=by unfold AM;rw[List.takeWhile_cons,if_pos hx];rfl
   have:=Qc (l:=l) (lt:=lt) (by rw[e]at h;simpa using h);simp only[e,List.getElem_cons_succ];exact this
  ·have e:AM lt (x::l)=0:=by unfold AM;rw[List.takeWhile_cons,if_neg hx];rfl
   simp only[e,List.getElem_cons_zero];simpa using hx
theorem eO{α β:Type}{xs:List α}{body:Int × Int->Option ((Int × Int) ⊕ Option β)}{fin:Int->Option β}(lt:α->Bool)(hm:∀i j (hj:j<xs.length) (hi:i<=j),lt xs[j]=true->lt xs[i]=true)
  (hs:∀i j:Nat,i<j->j<=xs.length->(h:(i+j)/2<xs.length)->body ((i:Int),(j:Int))=some (.inl (if lt xs[(i+j)/2]=true then((((i+j)/2+1:Nat):Int),(j:Int))else((i:Int),(((i+j)/2:Nat):Int)))))
  (he:∀i:Nat,i<=xs.length->body ((i:Int),(i:Int))=some (.inr (fin i))):AG body (0,(xs.length:Int))=fin (AM lt xs):=by
 have key:∀n i j:Nat,j-i<=n->i<=AM lt xs->AM lt xs<=j->j<=xs.length->AG body ((i:Int),(j:Int))=fin (AM lt xs):=by
  intro n
  induction n with
  |zero=>
   intro i j h1 h2 h3 h4;have:i=j:=by omega
   subst this;have:i=AM lt xs:=by omega
   rw[Eh,he i h4,this]
  |succ n ih=>
   intro i j h1 h2 h3 h4;by_cases Fv:i=j
   ·subst Fv;have:i=AM lt xs:=by omega
    rw[Eh,he i h4,this]
   ·have AL:(i+j)/2<xs.length:=by omega
    rw[Eh,hs i j (by omega) h4 AL];by_cases hc:lt xs[(i+j)/2]=true
    ·rw[if_pos hc];refine ih _ _ (by omega) ?_ h3 h4;by_cases hp:(i+j)/2<AM lt xs
     ·omega
     ·have h5:AM lt xs<xs.length:=by omega
      have:=Qc h5;rw[hm _ _ AL (by omega) hc]at this;cases this
    ·rw[if_neg hc];refine ih _ _ (by omega) h2 ?_ (by omega);by_cases hp:(i+j)/2<AM lt xs
     ·exact absurd (N5 hp) hc
     ·omega
 exact key xs.length 0 xs.length (by omega) (by omega) (KT lt xs) (Av _)
theorem Wy{α:Type}{key:α->Au}{x:α}:∀{l:List α},Da key l->Dv key x l=(match l[AM (λy=>bl (key y) (key x)) l]? with
  |some y=>if key y=key x then l.set (AM (λy=>bl (key y) (key x)) l) x else l.take (AM (λy=>bl (key y) (key x)) l)++ [x]++l.drop (AM (λy=>bl (key y) (key x)) l)
  |none=>l.take (AM (λy=>bl (key y) (key x)) l)++ [x]++l.drop (AM (λy=>bl (key y) (key x)) l))
 | [],_=>by simp[Dv,AM]
 |y::l,h=>by
  have h1:=List.pairwise_cons.1 h;unfold Dv;by_cases hb:bl (key x) (key y)=true
  ·have e:AM (λz=>bl (key z) (key x)) (y::l)=0:=by unfold AM;rw[List.takeWhile_cons,if_neg (by rw[P2 hb];simp)];rfl
   rw[if_pos hb,e];simp[(GL hb).symm]
  ·rw[if_neg hb];by_cases hk:key x=key y
   ·have e:AM (λz=>bl (key z) (key x)) (y::l)=0:=by unfold AM;rw[List.takeWhile_cons,if_neg (by rw[hk,HF];simp)];rfl
    rw[if_pos hk,e];simp[hk]
   ·have GA:=PQ (by simpa using hb) hk;have e:AM (λz=>bl (key z) (key x)) (y::l)=AM (λz=>bl (key z) (key x)) l+1:=by unfold AM;rw[List.takeWhile_cons,if_pos GA];rfl
    rw[if_neg hk,e,Wy h1.2];simp only[List.getElem?_cons_succ];split
    ·split<;>simp
    ·simp
theorem zr1{α:Type}{key:α->Au}{x:α}{l:List α}(h:Da key l)(p:α->Bool):(Dv key x l).filter p=if p x=true then Dv key x (l.filter p)else(l.filter p).filter λy=>decide (key y≠key x):=by
 split
 ·rename_i hp;refine Da.ext ((Jc h).filter p) (Jc (h.filter p)) λy=> ?_;rw[List.mem_filter,Je h,Je (h.filter p),List.mem_filter];constructor
  ·rintro⟨rfl|⟨h1,h2⟩,h3⟩
   ·exact .inl rfl
   ·exact .inr ⟨⟨h1,h3⟩,h2⟩
  ·rintro(rfl|⟨⟨h1,h3⟩,h2⟩)
   ·exact⟨.inl rfl,hp⟩
   ·exact⟨.inr ⟨h1,h2⟩,h3⟩
 ·rename_i hp;refine Da.ext ((Jc h).filter p) ((h.filter p).filter _) λy=> ?_;rw[List.mem_filter,Je h,List.mem_filter,List.mem_filter];simp only[Aq];constructor
  ·rintro⟨rfl|⟨h1,h2⟩,h3⟩
   ·exact absurd h3 hp
   ·exact⟨⟨h1,h3⟩,h2⟩
  ·rintro⟨⟨h1,h3⟩,h2⟩;exact⟨.inr ⟨h1,h2⟩,h3⟩
def Le(a b:Az):Int:=if bl a b=true then-1 else if a=b then 0 else 1
@[simp] theorem zxb(a:Az):Si a=some false:=by simp[Si]
@[simp] theorem zy5(a:Int):Sv a=some false:=by simp[Sv]
@[simp] theorem zzZ(a b:Az):O9 a b=some (Le a b):=by
 unfold O9 Le;simp only[zxb,Aa,Bv,if_false];by_cases h:bl a b=true
 ·have:Op.bytesLess a b=true:=h;simp[this]
 ·have h1:Op.bytesLess a b=false:=by simpa using h
  by_cases he:a=b
  ·subst he;simp[h1]
  ·simp[h1,he]
def Mr(a b:Int):Int:=if a<b then-1 else if a=b then 0 else 1
@[simp] theorem zzF(a b:Int):O6 a b=some (Mr a b):=by
 unfold O6 Mr;simp only[zy5,Aa,Bv,if_false];by_cases h:a<b
 ·simp[h]
 ·by_cases he:a=b
  ·subst he;simp
  ·have:b<a:=by omega
   simp[h,he,this]
theorem qX{a b:Az}:decide (Le a b<0)=bl a b:=by
 unfold Le;cases h:bl a b with
 |true=>simp
 |false=>by_cases he:a=b<;>simp[he]
theorem rJ{a b:Az}:(Le a b==0)=decide (a=b):=by
 unfold Le;cases h:bl a b with
 |true=>simp[GL h]
 |false=>by_cases he:a=b<;>simp[he]
theorem fB{i j:Nat}(h:i<=j)(hj:j<=2000000):IntKind.i64.wrap (Int.fdiv (IntKind.u64.wrap (IntKind.i64.wrap ((i:Int)+(j:Int)))) (2^(min ((1:Int)).toNat (IntKind.bits .u64))))=(((i+j)/2:Nat):Int):=by
 have e1:IntKind.i64.wrap ((i:Int)+(j:Int))=((i+j:Nat):Int):=by rw[CS (by omega) (by omega)];simp
 have e2:IntKind.u64.wrap ((i+j:Nat):Int)=((i+j:Nat):Int):=by simp only[IntKind.wrap,IntKind.bits,IntKind.signed];simp;omega
 have e3:(2:Int)^(min ((1:Int)).toNat (IntKind.bits .u64))=((2:Nat):Int):=rfl;rw[e1,e2,e3,Int.fdiv_eq_ediv_of_nonneg _ (by omega),<-Int.natCast_ediv,CS (by omega) (by omega)]
theorem Ct{i:Nat}(h:i<=2000000):IntKind.i64.wrap ((i:Int)+1)=((i+1:Nat):Int):=by rw[CS (by omega) (by omega)];simp
abbrev EE(l:List Ak):Prop:=Da (λw:Ak=>w.ae) l
abbrev Ge(l:List Ak)(k:Az):Nat:=AM (λw:Ak=>bl w.ae k) l
theorem s7{l:List Ak}{k:Az}(hl:l.length<=2000000)(hr:EE l):Nx l k=some (((Ge l k:Nat):Int),(match l[Ge l k]? with|some w=>decide (w.ae=k)|none=>false)):=by
 unfold Nx Zp;have hc:∀w:Ak,O8 w k=some (Le w.ae k):=λw=>by simp[O8]
 have h:=eO (xs:=l) (body:=λs:Int × Int=>OT l k (λy0_ y1_=>O8 y0_ y1_) s.1 s.2) (fin:=λi=>Zs l k (λy0_ y1_=>O8 y0_ y1_) i) (λw:Ak=>bl w.ae k)
  (λi j hj hi h=>by
   rcases Nat.lt_or_ge i j with Fv|Fv
   ·exact Fz ((List.pairwise_iff_getElem.1 hr) i j (by omega) hj Fv) h
   ·have:i=j:=by omega
    subst this;exact h)
  (λi j Fv hj IT=>by show OT l k _ (i:Int) (j:Int)=_;unfold OT;rw[if_pos (by simpa using Fv),fB (by omega) (by omega),AW IT,Aa];simp only[hc,Aa,qX,Ct (show(i+j)/2<=2000000 by omega)];cases bl l[(i+j)/2].ae k<;>rfl)
  (λi hi=>by show OT l k _ (i:Int) (i:Int)=_;unfold OT;rw[if_neg (by simp)])
 rw[h];unfold Zs;show Option.bind (if decide (((Ge l k:Nat):Int)<l.length)=true then _ else _) _=_;by_cases hp:Ge l k<l.length
 ·rw[if_pos (by simpa using hp),AW hp,Aa];simp only[hc,Aa,rJ,BH hp]
 ·rw[if_neg (by simpa using hp),List.getElem?_eq_none (by omega)];rfl
theorem ztT{l:List Ak}{w:Ak}(hl:l.length<=2000000)(hr:EE l):Vd l w=some (Dv (λw:Ak=>w.ae) w l):=by
 unfold Vd;rw[s7 hl hr,Aa,Wy hr];show(if(match l[Ge l w.ae]? with|some w'=>decide (w'.ae=w.ae)|none=>false)=true then _ else _)=_;have hle:Ge l w.ae<=l.length:=KT _ _;have hI:WC l ((Ge l w.ae:Nat):Int) [w]=some (l.take (Ge l w.ae)++ [w]++l.drop (Ge l w.ae)):=A8 ⟨by omega,by omega,by simp,by simp only[Bt];omega⟩;by_cases hp:Ge l w.ae<l.length
 ·rw[BH hp];by_cases hk:(l[Ge l w.ae]).ae=w.ae
  ·simp only[hk,decide_true,if_true,AW hp,Aa];rfl
  ·simp only[hk,decide_false,Bv,if_false];rw[hI];rfl
 ·rw[List.getElem?_eq_none (by omega)];simp only[Bv,if_false];rw[hI];rfl
theorem bK(ks:List Az):Mh ks=Df bl ks:=by
 have key:∀n q,q+n+1=ks.length->(List.range' (q+1) n).all (GF ks)=Df bl (ks.drop q):=by
  intro n
  induction n with
  |zero=>intro q hq;rw[Be (show q<ks.length by omega),List.drop_eq_nil_of_le (show ks.length<=q+1 by omega)];rfl
  |succ n ih=>intro q hq;rw[List.range'_succ,List.all_cons,ih (q+1) (by omega),mA (show q+1<ks.length by omega)];congr 1;unfold GF;have hb:(q+1==0)=false:=rfl;rw[hb,Bool.false_or,Nat.add_sub_cancel,BH (show q<ks.length by omega),BH (show q+1<ks.length by omega)];rfl
 cases ks with
 |nil=>rfl
 |cons k l=>unfold Mh;rw[AR,List.range_eq_range',List.range'_succ,List.all_cons];have:=key l.length 0 (by simp);rw[List.drop_zero]at this;rw[Nat.zero_add]at this;rw[show 0+1=1 from rfl,this];rfl
theorem bR{α β:Type}(f:α->β)(r:β->β->Bool):∀l:List α,Df r (l.map f)=Df (λa b=>r (f a) (f b)) l
 | []=>rfl
 | [_]=>rfl
 |x::y::l=>by have:=bR f r (y::l);simp only[List.map_cons,Df]at this ⊢;rw[this]
theorem zmM{l:List Ak}(h:HA l=true):EE l:=by unfold HA at h;simp only[Ab]at h;have h1:=h.2.2;rw[bK,bR]at h1;exact(L7 (r:=λa b:Ak=>bl a.ae b.ae) λa b c p q=>Fz p q).1 h1
end
end Go.Proofs.YtndikjghnmhdmaaGreat
