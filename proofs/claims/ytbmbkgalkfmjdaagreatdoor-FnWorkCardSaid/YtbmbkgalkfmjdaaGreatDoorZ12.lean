/- Parts of a proof, joined: NWS, NKW, PL. -/
import Derived.Test.YtbmbkgalkfmjdaaGreatDoorZ11
import Derived.Lib.LaidTab
import Derived.LaidSub
set_option linter.unusedVariables false
set_option linter.unusedSimpArgs false
section
namespace Go.Proofs.YtbmbkgalkfmjdaaGreatDoor
open Go.RowKit
set_option maxRecDepth 100000
set_option maxHeartbeats 1000000
structure KD (n:Nat) (w:AI):Prop where
 shift:Hl n w.ae
 up:w.cx.al.length≤2000
 down:w.bf.al.length≤2000
theorem KD.small {n:Nat} {w:AI} (h:KD n w) (hn:n≤10):G8 w:=⟨h.shift.small hn,by have:=h.up;omega,by have:=h.down;omega⟩
theorem KD.next {n:Nat} {w r:AI} (h:KD n w) (hr:r=UX∨JD w r):G8 r:=by
 rcases hr with rfl|hr
 ·exact⟨zy1,by simp [UX,Gc],by simp [UX,Gc]⟩
 ·exact⟨hr.shift.small,by have:=hr.pn;have:=h.up;omega,by have:=hr.o8;have:=h.down;omega⟩
theorem Hl.pb {s:Au} (hs:Hl 0 s):Hl 1 s:=⟨hs.name,by have:=hs.ways;omega,by simp,hs.way,by have:=hs.at_;omega,by have:=hs.pe;omega,hs.store⟩
theorem xR [Inhabited Ce] {t:Ad} {ks:List Af} {c:Ap} {k:Int} (ht:t.ab.length≤10) (hk: ∀x∈ks,x.length≤12) (h:A4 c k) (Jg:k≤4611686018427380000):Bi (Vq c t ks) fun p=>p.1.al.length≤100∧A4 p.2 (k+10):=by
 have j: ∀(v:Bool) {d:Ap} {m:Int},(v=true→ks≠ [])→A4 d m→m≤k+2→Bi (YJ t ks v d.aw d.bz d.az) fun p=>p.1.al.length≤100∧A4 p.2 (k+10):=fun v d m hv hd hm=>by
  unfold YJ;refine .ite (fun hvt=> ?_) fun _=> .req (by simp;omega) ?_
  ·exact(Ll ks (hv hvt) hd (by omega)).bind fun x ⟨hx,he⟩=>(Hb 3 he (by omega)).bind fun y hy=> .ret ⟨by have:=hk _ hx;dsimp only;omega,hy.up (by omega)⟩
  ·refine(Ll _ (by simp) hd (by omega)).bind fun x ⟨hx,he⟩=>(Hb 4 he (by omega)).bind fun y hy=> .ret ⟨?_,hy.up (by omega)⟩;dsimp only;simp only [Ag,List.not_mem_nil,or_false]at hx;rcases hx with e|e|e|e|e<;>rw [e]<;>simp;omega
 unfold Vq;refine .ite (fun hl=> ?_) fun _=>j false (fun h=>by cases h) h (by omega);simp only [decide_eq_true_eq]at hl;exact(Hb 2 h (by omega)).bind fun u hu=>j u.1 (fun _ e=>by rw [e]at hl;simp at hl) hu (by omega)
theorem zGB [Inhabited Ce] {c:Ap} {k:Int} (h:A4 c k) (hs:sd c) (hl:(c.aw.length:Int)≤1048576) (hk:k≤1000000000000000000):Bi (YU c) fun p=>(KD 0 p.1∧BR p.1.ae)∧A4 p.2 (k+Pr+100):=by
 have hf:Pr=3000000000000000:=rfl;unfold YU;refine(zxm h hs hl hk).bind fun s ⟨⟨hD,hg⟩,hc⟩=>(Hb 3 hc (by omega)).bind fun u hu=> .ite (fun _=> ?_) fun _=> .ret ⟨⟨⟨hD,by simp,by simp⟩,hg⟩,hu.up (by omega)⟩;have F:=Tx (w:=⟨s.1,Gc,Gc⟩) hg;have fI:=Fg (KZ hg);have hn:=(L9 (K0 fI.2.2.2.2.2)).1;have hR:=(Eg hg.2.2.2.2.2.2).1;have hEg:=aB (t:=AM s.1) (n:=s.1.ab) hg.2.2.2.2.2.2;have at0:getI s.1.ak 0=some (AM s.1):=F.at0;have sR:Jn (AM s.1) s.1.ao=some (rows (AM s.1) s.1.ao):=F.sR;have sE:Jo (AM s.1) s.1.ab s.1.ao=some (Be (AM s.1) s.1.ab s.1.ao):=F.sE;rw [at0,Aa,zvo fI.2.2.2.2.2 (by have:=hR.len;omega) sR,Aa];refine(xR (by omega) (fun x hx=> ?_) hu (by omega)).bind fun f ⟨hf1,hd⟩=> ?_
 ·obtain⟨r,hr,rfl⟩:=List.mem_map.1 hx;exact S3 (NO fI.2.2.2.2.2 (Kn hr)).1
 rw [sE,Aa];refine(xR (by omega) (fun x hx=>S3 (hEg x hx)) hd (by omega)).bind fun z ⟨hz,he⟩=> .ret ⟨⟨⟨hD,by dsimp only;omega,by dsimp only;omega⟩,hg⟩,he.up (by omega)⟩
theorem zzq [Inhabited Ce] (hlen: ∀{c:Ap} {k:Int},A4 c k→(c.aw.length:Int)≤1048576) {c:Ap} {k:Int} (h:A4 c k) (hs:sd c) (hk:k≤900000000000000000):Bi (YE c) fun p=>KD 1 p.1∧A4 p.2 (k+7000000000000000):=by
 have hf:Pr=3000000000000000:=rfl;unfold YE;refine(zGB h hs (hlen h) (by omega)).bind fun w ⟨⟨hK,_⟩,hc⟩=>((Tg 10 (by omega) (by omega) hc (by omega)).and (DN 10 hc (by omega))).bind fun q ⟨⟨_,_,q3,_⟩,_,he⟩=> ?_;have h0:=hK.shift.pb;have uT: ∀z:Af,z∈([([65]:Ab),([97,98,99,100,101,102,103,104,105,106,107,108,109]:Ab),([33]:Ab)]:List (Ab))→z.length≤2000:=fun z hz=>by simp only [Ag,List.not_mem_nil,or_false]at hz;rcases hz with e|e|e<;>rw [e]<;>simp
 refine .ite (fun _=> ?_) fun _=> .ite (fun _=> ?_) fun _=> .ite (fun _=> ?_) fun _=> .ret ⟨⟨h0,hK.up,hK.down⟩,he.up (by omega)⟩
 ·exact(zvY he q3 (hlen he) (by omega)).bind fun s ⟨hS,hd⟩=> .ret ⟨⟨hS,hK.up,hK.down⟩,hd.up (by omega)⟩
 ·exact(Ll _ (by simp) he (by omega)).bind fun z ⟨hz,hd⟩=> .ret ⟨⟨h0,uT _ hz,hK.down⟩,hd.up (by omega)⟩
 ·exact(Ll _ (by simp) he (by omega)).bind fun z ⟨hz,hd⟩=> .ret ⟨⟨h0,hK.up,uT _ hz⟩,hd.up (by omega)⟩
theorem zAJ [Inhabited Ce] {w:AI} {c:Ap} {k:Int} (hS:Hl 1 w.ae) (h1:1≤w.ae.ak.length) (h:A4 c k) (hk:k≤4611686018426000000):Bi (YH c w) fun p=>Qp p.1.ay.ay∧A4 p.2 (k+300):=by
 unfold YH;refine(DN 4 h (by omega)).bind fun p ⟨_,hc⟩=> .ite (fun _=> ?_) fun _=> .ite (fun _=> ?_) fun _=> ?_
 ·exact(DN 3 hc (by omega)).bind fun q ⟨_,hd⟩=> .ret ⟨⟨KY,KY⟩,hd.up (by omega)⟩
 ·exact(sA _ (by simp) hc (by omega)).bind fun q ⟨_,hd⟩=>(DN 3 hd (by omega)).bind fun u ⟨_,he⟩=> .ret ⟨⟨KY,KY⟩,he.up (by omega)⟩
 ·exact(zys hS h1 hc (by omega)).bind fun a ⟨ha,hd⟩=> .ret ⟨ha,hd.up (by omega)⟩
theorem ztf {code:List Int} (h: ∀b∈code,0≤b∧b≤255) (hl:(code.length:Int)≤1048576):Bi (Y8 code) fun p=>KD 1 p.1∧Qp p.2.ay.ay:=by
 letI:Inhabited Ce:=⟨⟨fun l=>(∀b∈l,0≤b∧b≤255)∧l=code,fun _ h=>h.1⟩⟩
 have hlen: ∀{c:Ap} {k:Int},A4 c k→(c.aw.length:Int)≤1048576:=fun{c k} hc=>by have e:c.aw=code:=hc.1.2;rw [e];exact hl
 have h0:A4 ⟨code,0,0⟩ 0:= .start ⟨h,rfl⟩;unfold Y8;refine(zzq hlen h0 ⟨by simp,by simp⟩ (by omega)).bind fun w ⟨hK,hc⟩=> ?_;obtain⟨g,e1,_,e3⟩:=pR (hK.small (by omega));rw [e1,Aa];refine .ite (fun _=> .ret ⟨hK,KY,KY⟩) fun Uj=> ?_;have hg:=(e3.1 (by simpa using Uj)).shift;refine(zAJ (zB4 hg) hg.1 hc (by omega)).bind fun a ⟨ha,hd⟩=>(DN 14 hd (by omega)).bind fun q ⟨_,he⟩=> ?_;refine .ite (fun _=> ?_) fun _=> .ite (fun _=> ?_) fun _=> .ite (fun _=> ?_) fun _=> .ret ⟨hK,ha⟩
 ·exact(DN 5 he (by omega)).bind fun u _=> .ret ⟨hK,ha⟩
 ·exact(sA _ (by simp) he (by omega)).bind fun u _=> .ret ⟨hK,ha⟩
 ·exact(DN 4 he (by omega)).bind fun u _=> .ret ⟨hK,ha⟩
theorem zI0 {s:Au} (hS:DS s) (hg:BR s):aF s=some (He s,true):=by obtain⟨g,e,f⟩:=s7 hS;unfold aF;rw [e,Aa,if_neg (by simp [f.2 hg]),(cU hS hg).1];rfl
theorem zIX {s:Au} (hS:DS s) (hg:BR s):V2 s=some (He s,true):=by obtain⟨g,e,f⟩:=s5 hS;unfold V2;rw [e,Aa,if_neg (by simp [f.2 hg]),(cU hS hg).2];rfl
theorem zuZ {s:Au} (hS:DS s) (hg:BR s):SA s.bp=some (Fj s.bp)∧Ry s=some (Fj s.bp):=by
 have hb: ∀y∈s.bp,0≤y∧y≤3:=fun y hy=>by have:=hg.2.2.2.2.2.1 y hy;have:=hg.2.1;omega
 have h3:=B7.1 hg.2.2.2.2.1;exact⟨sU hS.at_ hb,zzJ hS.at_ (by omega) hb⟩
theorem zHd {s:Au} (hS:DS s) (hg:BR s):ZL s=some (Fj s.bp,true):=by obtain⟨g,e,f⟩:=s7 hS;unfold ZL;rw [e,Aa,if_neg (by simp [f.2 hg]),(zuZ hS hg).1];rfl
theorem zHb {s:Au} (hS:DS s) (hg:BR s):V1 s=some (Fj s.bp,true):=by obtain⟨g,e,f⟩:=s5 hS;unfold V1;rw [e,Aa,if_neg (by simp [f.2 hg]),(zuZ hS hg).2];rfl
theorem zFm {w:AI} (hS:G8 w):ZQ w w=some true:=by unfold ZQ;rw [zEv hS.shift,Aa];simp
theorem yU {a b:Bool} (h:a=true→b=true):(!a||b)=true:=by
 cases a with
 |false=>rfl
 |true=>rw [h rfl];rfl
theorem zGr {a b c d:Bool} (h:a=true→b=true→c=true∧d=true):((!a|| !b)||(c&&d))=true:=by
 cases a with
 |false=>rfl
 |true=>
  cases b with
  |false=>rfl
  |true=>rw [(h rfl rfl).1,(h rfl rfl).2];rfl
theorem zHx (c b:List Int) (hc:X2 Pt c) (_:X2 Pt b) (z0:c.length≤140737488351232) (z1:b.length≤140737488351232):aK c b=some true:=by
 unfold aK;refine z7 (fun _=>rfl) fun hlen=> ?_;have hl:(c.length:Int)≤1048576:=by simp only [decide_eq_false_iff_not]at hlen;rw [Bc (by omega) (by omega)]at hlen;omega
 obtain⟨⟨w,a⟩,hd,hD,hA⟩:=ztf hc.2 hl;dsimp only at hD hA;have hS:=hD.small (by omega);obtain⟨g,Q⟩:=z8 hS;obtain⟨_,ga,r,A⟩:=zDK (a:=a) hS hA.small;have Xz:=hD.next A.res;refine(Gi hd).trans ((Gi A.si).trans ((Gi A.ss).trans ((Gi Q.fi).trans ((Gi Q.fs).trans ((Gi Q.ci).trans ((Gi Q.cs).trans ?_))))));refine Nn (by simp) (Nn (by simp) ((Gi (zFm Xz)).trans (zJ1 rfl (Nn (by simp) (Nn (by simp) (Nn (by simp) (Nn (by simp) ?_)))))));refine(Gi Q.gi).trans ((Gi Q.gs).trans (Nn (by simp) ((Gi A.ai).trans (Nn (by rw [A.ok];simp) (z7 (fun _=>rfl) fun CC=> ?_)))));have FF:ga=true:=by rw [←A.ok];simpa using CC
 obtain⟨hK,_,AZ,hN⟩:=A.on FF;have Xu:=hN.bu hK;have GY:=Q.bu.2 hK;obtain⟨g',Q'⟩:=z8 Xz;have Ul:=Q'.bu.2 Xu;refine(Gi Q'.fi).trans ((Gi Q'.ci).trans ((Gi (zI0 hS.shift hK.shift)).trans ((Gi (zHd hS.shift hK.shift)).trans ((Gi (zIX Xz.shift Xu.shift)).trans ((Gi (zHb Xz.shift Xu.shift)).trans ?_)))));have f1:=yU fun h:Mm w=true=>(ztr Xu.shift).2 (ztz hS hK.shift hA.small AZ ((ztr hK.shift).1 h));have f2:=yU fun h:Mf w=true=>zrr.2 (zrx hS hK.shift hA.small AZ (zrr.1 h));have f3:=zGr fun(h1:He w.ae=true) (h2:Fj w.ae.bp=true)=>(zxj hS hK.shift hA.small AZ h1 h2).symm;dsimp only at f1 f2 f3;rw [if_pos Ul,if_pos Ul,if_pos GY,if_pos GY];dsimp only;rw [f1,f2,f3];rfl
theorem zzf {H:Type} {enc:TypeId × Value→H} {P:Program} {w:World} {base:Nat} {sp:Nat→Bool} {held:Bool} {fuel:Nat} {t:TypeId} {cs:List Value} {n:String} {d:DataW H} {p:List MemPlace} {u:TypeDesc}
  (ht:P.underlying t=some u) (hu:(match u with| .interface _=>true|_=>false)=true) (h:DataW.trod enc P w base sp held fuel t cs=some (.iface n d,p)): ∃a v,cs= [.iface a v]:=by
 cases fuel with
 |zero=>simp [DataW.trod]at h
 |succ fuel=>
  cases u<;>first|(cases hu;done)|skip
  simp only [DataW.trod,ht]at h;split at h<;>first|(exact⟨_,_,rfl⟩)|(simp at h;done)|(simp_all;done)
noncomputable def zR (s:String):Bool:=match(Tryz.prog.globalNamed s).bind (fun g=>(Tryz.prog.globals[g]?).map (·.type))with
 |some t=>(match Tryz.prog.underlying t with|some (.interface _)=>true|_=>false)
 |none=>false
noncomputable def yV (s:String):Bool:=match(Tryz.prog.globalNamed s).bind (fun g=>(Tryz.prog.globals[g]?).map (·.type))with
 |some t=>(match Tryz.prog.underlying t with
  |some (.array n e)=>(match Tryz.prog.underlying e with|some (.int .u64)=>true|_=>false)&&Tryz.prog.cellsOf e==1&&Tryz.prog.cellsOf t==n
  |_=>false)
 |none=>false
theorem vH {s:String} {D:DataW Unit} {W:World} (h:laidMet Tryz.prog [(s,D)] W) (hc:zR s=true) (hd: ∃n d,D= .iface n d): ∃t p,W.var? Tryz.prog s=some #[.iface t p]:=by
 obtain⟨ps,⟨g,t,cs,fuel,p,q,hg,ht,UO,XT,_,_⟩,_⟩:=h;obtain⟨n,d,rfl⟩:=hd;unfold zR at hc;rw [hg,Aa,ht]at hc;simp only at hc;cases hu:Tryz.prog.underlying t with
 |none=>rw [hu]at hc;cases hc
 |some u=>obtain⟨a,v,e⟩:=zzf hu (by rw [hu]at hc;cases u<;>first|rfl|cases hc) XT;refine⟨a,v, ?_⟩;rw [UO];congr 1;apply Array.ext';rw [e]
theorem zIj {s:String} {W:World} (h:laidMet Tryz.prog [(s,Lib.tabData .u64 Lib.pow10Tab)] W) (hc:yV s=true):Lib.TabIs Tryz.prog W s .u64 Lib.pow10Tab:=by
 have h0:=h;obtain⟨ps,⟨g,t,cs,fuel,p,q,hg,ht,UO,XT,_,_⟩,_⟩:=h;unfold yV at hc;rw [hg,Aa,ht]at hc;simp only at hc;split at hc
 ·rename_i n e hu;simp only [Ae,beq_iff_eq]at hc;obtain⟨⟨h1,h2⟩,h3⟩:=hc;split at h1
  ·rename_i he;exact Lib.tabIs_of_head hg ht hu he h2 h3 h0
  ·cases h1
 ·cases hc
theorem zGK {laid:List (String × DataW Unit)} {D1 D2 D3:DataW Unit} {W:World} (h:laidMet Tryz.prog laid W)
  (e1:(laid.filter fun x=>x.1== "strconv.ErrSyntax")= [("strconv.ErrSyntax",D1)]) (i1: ∃n d,D1= .iface n d)
  (e2:(laid.filter fun x=>x.1== "strconv.ErrRange")= [("strconv.ErrRange",D2)]) (i2: ∃n d,D2= .iface n d)
  (e3:(laid.filter fun x=>x.1== "internal/strconv.uint64pow10")= [("internal/strconv.uint64pow10",D3)]) (i3:D3=Lib.tabData .u64 Lib.pow10Tab):F3.n≤W.heap.size∧F3.K W:=by
 have h1:=h.filter fun x=>x.1== "strconv.ErrSyntax"
 have h2:=h.filter fun x=>x.1== "strconv.ErrRange"
 have h3:=h.filter fun x=>x.1== "internal/strconv.uint64pow10"
 rw [e1]at h1;rw [e2]at h2;rw [e3,i3]at h3;have k:iY W:=⟨vH h1 (by kernel_rfl) i1,vH h2 (by kernel_rfl) i2,(zIj h3 (by kernel_rfl)).trans (by kernel_rfl)⟩
 exact⟨zHY k,k⟩
end Go.Proofs.YtbmbkgalkfmjdaaGreatDoor
end
