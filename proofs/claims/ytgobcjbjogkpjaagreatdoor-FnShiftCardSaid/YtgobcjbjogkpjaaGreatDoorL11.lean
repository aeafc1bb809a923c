/- Parts of a proof, joined: NDD, NKD, PL. -/
import Derived.Test.YtgobcjbjogkpjaaGreatDoorL10
import Derived.Lib.LaidTab
import Derived.LaidSub
section
namespace Go.Proofs.YtgobcjbjogkpjaaGreatDoor
open Go.RowKit
set_option maxRecDepth 100000
theorem zzD: ∀(n:Nat) {c:zad} {p:zab × zad},zkZ n c=some p→p.1.fIdxs≠ []→zbb c=zbC p.2.fcode p.2.fat p.2.fseed p.1.fName p.1.fCols p.1.fIdxs:=by
 have stop: ∀{p:zab × zad},p.1.fIdxs≠ []→zau (fun s:List Int × Int × Int × List UInt8 × List (List UInt8) × List za7=>za6 s.1 s.2.1 s.2.2.1 s.2.2.2.1 s.2.2.2.2.1 s.2.2.2.2.2) (p.2.fcode,p.2.fat,p.2.fseed,p.1.fName,p.1.fCols,p.1.fIdxs)=zbC p.2.fcode p.2.fat p.2.fseed p.1.fName p.1.fCols p.1.fIdxs:=by
  intro p hp
  refine zb8 ?_
  show za6 p.2.fcode p.2.fat p.2.fseed p.1.fName p.1.fCols p.1.fIdxs=_
  unfold za6
  have:0<p.1.fIdxs.length:=List.length_pos_iff.2 hp
  rw [if_neg (by simp;omega)]
 intro n
 induction n with
 |zero=>
  intro c p h hne
  unfold zbb
  rw [show zax c=some p from h,Option.bind_some]
  exact stop hne
 |succ n ih=>
  intro c p h hne
  unfold zkZ at h
  obtain⟨q,hq,h⟩:=zpd h
  split at h
  ·rename_i h0
   have he:q.1.fIdxs= []:=List.eq_nil_of_length_eq_zero h0
   obtain⟨r,hr⟩: ∃r,zax q.2=some r:=by
    cases n with
    |zero=>exact⟨p,h⟩
    |succ n=>
     unfold zkZ at h
     obtain⟨r,hr,_⟩:=zpd h
     exact⟨r,hr⟩
   rw [←ih h hne]
   unfold zbb
   rw [hq,Option.bind_some,hr,Option.bind_some]
   refine zcE ?_
   show za6 q.2.fcode q.2.fat q.2.fseed q.1.fName q.1.fCols q.1.fIdxs=_
   unfold za6
   rw [if_pos (by rw [he];rfl),show(⟨q.2.fcode,q.2.fat,q.2.fseed⟩:zad)=q.2 from rfl,hr,Option.bind_some]
  ·cases h
   unfold zbb
   rw [hq,Option.bind_some]
   exact stop hne
structure ShD (n:Nat) (s:zaf):Prop where
 name:s.fName.length≤10
 ways:s.fWays.length≤4+n
 least:n=0→1≤s.fWays.length
 way: ∀t∈s.fWays,zag t=true
 at_:s.fAt.length≤3+n
 few:s.fStore.length≤80+n
 store:zuS s.fStore
theorem ShD.small {n:Nat} {s:zaf} (h:ShD n s) (hn:n≤10):zfb s:=⟨by have:=h.name;omega,by have:=h.ways;omega,fun t ht=>zc9 (h.way t ht),by have:=h.at_;omega,h.store.small⟩
theorem zwI {t:zab} {n:Str} {b:Int} (h:zji t n=true) (hb0:0≤b) (hb3:b≤3): ∀w∈way t (kOf t n) (zdg t n) b,zji w n=true:=by
 intro w hw
 have f:=zkk h
 rcases List.mem_cons.1 hw with rfl|hw
 ·exact h
 ·obtain⟨c,hc,rfl⟩:=List.mem_map.1 hw
  have:=ztE 3 f.2.2.2.1 f.2.2.2.2.1 hb0 hb3 c hc
  exact zyp h (zaE.2 this)
theorem zvR {t:zab} {n:Str} {stage srv:Int} {l:List zaa} (h:zji t n=true) (hn:n.length≤10) (hs0:0≤stage) (hs3:stage≤3) (h1:1≤srv) (h2:srv≤3) (hl:zmk l):
  zgv t n stage srv l=some (if zbY l=true then(⟨n,way t (kOf t n) (zdg t n) stage,List.replicate srv.toNat 0,l⟩,true)else(⟨[], [], [], []⟩,false)):=by
 have hg:=zdu h
 have hS:=zc9 hg
 have f:=zkk h
 have hk:zhc (fun x:za7=>x.fName==n) t.fIdxs≥0:=by
  unfold zji at h
  rw [Bool.and_eq_true,decide_eq_true_eq]at h
  exact h.2
 have hask:zgW t n stage=some true:=by
  unfold zgW
  rw [zkz hS,Option.bind_some,if_pos hg,zmr hS,Option.bind_some,if_pos (decide_eq_true hk),zjX,Option.bind_some,zaE.2 ⟨hs0,hs3⟩]
 unfold zgv
 rw [hask,Option.bind_some,if_pos rfl,zjX,Option.bind_some,if_pos (zaE.2 ⟨h1,h2⟩),zm1 hl,Option.bind_some]
 by_cases hr:zbY l=true
 ·have hw:=zwI h hs0 hs3
  have hlen:(way t (kOf t n) (zdg t n) stage).length≤4:=by
   unfold way
   have:=zpZ 3 (zdg t n) stage
   rw [List.length_cons,List.length_map];omega
  rw [if_neg (by simp [hr]),if_pos hr,zCB hS f.1 (by rw [←f.2.1];exact f.2.2.2.1) (by rw [←f.2.1];exact f.2.2.2.2.1) hs0 hs3,Option.bind_some,zak (by omega)]
  have e:way t (zhc (fun y:za7=>y.fName==n) t.fIdxs) (xOf t n).fStage stage=way t (kOf t n) (zdg t n) stage:=by rw [f.2.1];rfl
  rw [e,zwi (s:=⟨n,way t (kOf t n) (zdg t n) stage,List.replicate srv.toNat 0,l⟩) ⟨by dsimp only;omega,by dsimp only;omega,fun t ht=>zc9 (zdu (hw t ht)),by dsimp only;rw [List.length_replicate];omega,hl⟩];rfl
 ·rw [if_pos (by simpa using hr),if_neg hr]
structure ChI (t:zab) (n:Str) (rs:List zaa) (v:zaf):Prop where
 name:v.fName.length≤10
 ways:v.fWays.length≤4
 way: ∀w∈v.fWays,zji w v.fName=true
 at_:v.fAt.length≤3
 some_:1≤v.fWays.length
 store:zjj 40 v.fStore
theorem zt7 {v11:List zaa × zad} {v:zaf × Bool} {ats:List Int} {c:zad} {k:Int} {l:List zaa} {t:zab} {n:Str} {rs:List zaa} (hI:ChI t n rs v.1) (h11:zjj 40 v11.1) (ha:ats.length≤3) (hl:zjj 80 l) (h:okC c k) (hk:k≤4611686018427300000):
  zbj (zdN v11 v ats c.fcode c.fat c.fseed l) fun p=>ShD 0 p.1∧okC p.2 (k+10):=by
 unfold zdN
 have hw:=hI.ways
 refine(zk0 7 (c:=⟨c.fcode,c.fat,c.fseed⟩) h (by omega)).bind fun u hu=> .ite (fun _=> .ret ⟨⟨hI.name,by dsimp only;omega,fun _=>hI.some_,fun t ht=>zdu (hI.way t ht),by dsimp only;omega,by have:=h11.len;dsimp only;omega,h11.tiny (by omega)⟩,hu.up (by omega)⟩) fun _=> .ret ⟨⟨hI.name,by dsimp only;omega,fun _=>hI.some_,fun t ht=>zdu (hI.way t ht),by dsimp only;omega,by have:=hl.len;dsimp only;omega,hl.tiny (by omega)⟩,hu.up (by omega)⟩
theorem zuY {t:zab} {y:za7} {v11:List zaa × zad} {rs:List zaa} {v:zaf × Bool} {ats:List Int} {c:zad} {k:Int} (ht:zji t y.fName=true) (hrs:zjj 40 rs) (hI:ChI t y.fName rs v.1) (h11:zjj 40 v11.1) (hat:ats.length=v.1.fAt.length) (hb: ∀z∈ats,0≤z∧z≤(v.1.fWays.length:Int)-1) (h:okC c k) (hk:k≤4611686018427200000):
  zbj (zdK y t v11 rs v c.fcode c.fat c.fseed ats) fun p=>ShD 0 p.1∧okC p.2 (k+200):=by
 have hg:=zdu ht
 have hS:=zc9 hg
 have f:=zkk ht
 have hn:y.fName.length≤10:=by
  have:=(zge (show za5 y.fName 1=true by rw [←f.1.name];exact(zdl hg f.2.2.1).1)).1
  omega
 have hlen:=hrs.len
 have hatl:=hI.at_
 have hname:=hI.name
 unfold zdK
 have hst: ∀z∈ats,∃tb x,getI v.1.fWays z=some tb∧tb∈v.1.fWays∧zfO tb v.1.fName x∧zdg tb v.1.fName=x.fStage:=fun z hz=>by
  obtain⟨tb,q1,q2,_⟩:=zip (hb z hz).1 (by have:=(hb z hz).2;omega:z<v.1.fWays.length)
  obtain⟨x,q3,q4,_⟩:=zli (hI.way tb q2)
  exact⟨tb,x,q1,q2,q3,q4⟩
 have hnl:(ats.map fun z=>zdg ((getI v.1.fWays z).getD noT) v.1.fName).length=ats.length:=by simp
 have n1:=zwc (s:=⟨v.1.fName,v.1.fWays,ats,v.1.fStore⟩) (st:=ats.map fun z=>zdg ((getI v.1.fWays z).getD noT) v.1.fName) hnl (by rw [hnl];omega) fun i hi=>by
  have hi':i<ats.length:=by omega
  obtain⟨tb,x,q1,q2,q3,q4⟩:=hst _ (List.getElem_mem hi')
  refine⟨ats[i],tb,_,x,zae hi',q1,zmr (zc9 (zdu (hI.way _ q2))),q3.at_, ?_⟩
  simp only [List.getElem_map,q1,Option.getD_some,q4]
 rw [n1,Option.bind_some,zuq hS (by omega) f.1 (by omega) (fun w hw=>zl3 (hrs.good w hw)),Option.bind_some]
 have hwl:=zos t y.fName (xOf t y.fName) rs
 have hwg: ∀z∈wanted t y.fName (xOf t y.fName) rs,zgd ⟨z, [],false⟩=true:=fun z hz=>by
  obtain⟨q,hq,hr,rfl⟩:=zjY.1 hz
  refine znF (zl4 hg ?_ (zjp hr).1) (by decide)
  rw [←f.1.name]
  exact(zdl hg f.2.2.1).1
 generalize wanted t y.fName (xOf t y.fName) rs=W at hwl hwg
 generalize zw5 _=nd
 refine zft (fun m s=> ∃i:Nat,s.1=(i:Int)∧i+m=W.length∧zjj (40+i) s.2.2.2.2∧okC ⟨s.2.1,s.2.2.1,s.2.2.2.1⟩ (k+2*i)) (fun m s hJ=> ?_) (n:=W.length) (by exact⟨0,rfl,by omega,hI.store,by simpa using h⟩)
 obtain⟨i,e1,e2,hT,ho⟩:=hJ
 obtain⟨s1,a,b,e,l⟩:=s
 dsimp only at e1 hT ho ⊢
 subst e1
 have hll:=hT.len
 unfold zfJ
 refine .ite (fun hlt=> ?_) fun hge=> ?_
 ·simp only [decide_eq_true_eq]at hlt
  have hi:i<W.length:=by omega
  have w1:IntKind.i64.wrap ((i:Int)+1)=((i+1:Nat):Int):=by rw [zaH (by omega) (by omega)];omega
  have hput:=zev hT (hwg _ (List.getElem_mem hi))
  have hsp:=zkT (l:=l) (w:=⟨W[i], [],false⟩) (by omega) hT.rise
  rw [zae hi,Option.bind_some]
  refine .ite (fun _=> .ite (fun _=> ?_) fun hf=>by cases hf) fun _=> .ite (fun _=> ?_) fun _=> .ite (fun hf=>by cases hf) fun _=> .ret ⟨m-1,by omega,i+1,w1,by omega,hT.mono (by omega),ho.up (by omega)⟩
  ·rw [hsp,Option.bind_some]
   exact .ret ⟨m-1,by omega,i+1,w1,by omega,hput.mono (by omega),ho.up (by omega)⟩
  ·refine(zk0 2 ho (by omega)).bind fun u hu=> .ite (fun _=> ?_) fun _=> .ret ⟨m-1,by omega,i+1,w1,by omega,hT.mono (by omega),hu.up (by omega)⟩
   rw [hsp,Option.bind_some]
   exact .ret ⟨m-1,by omega,i+1,w1,by omega,hput.mono (by omega),hu.up (by omega)⟩
 ·exact .ret ((zt7 (c:=⟨a,b,e⟩) hI h11 (by omega) (hT.mono (by omega)) ho (by omega)).mono fun p hp=>⟨hp.1,hp.2.up (by omega)⟩)
theorem zt4 {t:zab} {y:za7} {v11:List zaa × zad} {rs:List zaa} {k:Int} (ht:zji t y.fName=true) (hrs:zjj 40 rs) (hrg:zbY rs=true) (h11:zjj 40 v11.1) (h:okC v11.2 k) (hk:k≤4611686018427100000):
  zbj (zdM y t v11 rs) fun p=>ShD 0 p.1∧okC p.2 (k+400):=by
 unfold zdM
 have hg:=zdu ht
 have f:=zkk ht
 have hn:y.fName.length≤10:=by
  have:=(zge (show za5 y.fName 1=true by rw [←f.1.name];exact(zdl hg f.2.2.1).1)).1
  omega
 refine(zcH 4 h (by omega)).bind fun p ⟨hp,hc⟩=>(zcH 3 hc (by omega)).bind fun r ⟨hr,hd⟩=> ?_
 have p2:=hp.2.1 (by omega)
 have r2:=hr.2.1 (by omega)
 have hW:zmk rs:=(hrs.tiny (by omega)).small
 rw [zaH (n:=1+r.1) (by omega) (by omega),zvR ht hn hp.1 (by omega) (by omega) (by omega) hW,Option.bind_some,if_pos hrg]
 have hI:ChI t y.fName rs ((⟨y.fName,way t (kOf t y.fName) (zdg t y.fName) p.1,List.replicate (1+r.1).toNat 0,rs⟩:zaf),true).1:=by
  have hw:=zwI ht hp.1 (by omega)
  have hlen:(way t (kOf t y.fName) (zdg t y.fName) p.1).length≤4∧1≤(way t (kOf t y.fName) (zdg t y.fName) p.1).length:=by
   unfold way
   have:=zpZ 3 (zdg t y.fName) p.1
   rw [List.length_cons,List.length_map];omega
  exact⟨hn,hlen.1,hw,by dsimp only;rw [List.length_replicate];omega,hlen.2,hrs⟩
 have hz: ∀z∈((⟨y.fName,way t (kOf t y.fName) (zdg t y.fName) p.1,List.replicate (1+r.1).toNat 0,rs⟩:zaf),true).1.fAt,z=0:=fun z hz=>(List.mem_replicate.1 hz).2
 generalize ((⟨y.fName,way t (kOf t y.fName) (zdg t y.fName) p.1,List.replicate (1+r.1).toNat 0,rs⟩:zaf),true)=v at hI hz
 have hw1:=hI.some_
 have hws:=hI.ways
 have hat:=hI.at_
 refine(zcH _ hd (by omega)).bind fun g ⟨hg2,he⟩=> ?_
 refine zft (fun m s=> ∃i:Nat,s.1=(i:Int)∧i+m=v.1.fAt.length∧s.2.2.2.2.length=v.1.fAt.length∧(∀z∈s.2.2.2.2,0≤z∧z≤(v.1.fWays.length:Int)-1)∧okC ⟨s.2.1,s.2.2.1,s.2.2.2.1⟩ (k+6+10*i)) (fun m s hJ=> ?_) (n:=v.1.fAt.length) (by
  refine⟨0,rfl,by omega,rfl,fun z hz'=> ?_,he.up (by omega)⟩
  rw [hz z hz']
  omega)
 obtain⟨i,e1,e2,hl,hb,ho⟩:=hJ
 obtain⟨s1,a,b,e,ats⟩:=s
 dsimp only at e1 hl hb ho ⊢
 subst e1
 unfold zfK
 refine .ite (fun hlt=> ?_) fun hge=> ?_
 ·simp only [decide_eq_true_eq]at hlt
  have hi:i<v.1.fAt.length:=by omega
  have hi2:i<ats.length:=by omega
  have hg3:=hg2.2.2
  have hg4:=hg2.2.1 (by omega)
  have w1:IntKind.i64.wrap ((i:Int)+1)=((i+1:Nat):Int):=by rw [zaH (by omega) (by omega)];omega
  refine(zcH 2 ho (by omega)).bind fun u ⟨hu,hf⟩=> ?_
  have u2:=hu.2.1 (by omega)
  obtain⟨z,ez,z0,z1⟩: ∃z,zhN (IntKind.i64.wrap (g.1+u.1)) (IntKind.i64.wrap ((v.1.fWays.length:Int)-1))=some z∧0≤z∧z≤(v.1.fWays.length:Int)-1:=by
   rw [zaH (by omega) (by omega),zaH (by omega) (by omega)]
   unfold zhN
   split
   ·rename_i hh;rw [decide_eq_true_eq]at hh;exact⟨_,rfl,by omega,by omega⟩
   ·exact⟨_,rfl,by omega,by omega⟩
  rw [ez,Option.bind_some,zae hi2,Option.bind_some]
  have hset: ∀{x:Int} {l:List Int} {j:Nat},(∀z∈l,0≤z∧z≤(v.1.fWays.length:Int)-1)→0≤x→x≤(v.1.fWays.length:Int)-1→ ∀z∈l.set j x,0≤z∧z≤(v.1.fWays.length:Int)-1:=by
   intro x l j h0 h1 h2 z hz
   rcases List.mem_or_eq_of_mem_set hz with hz|rfl
   ·exact h0 z hz
   ·exact⟨h1,h2⟩
  refine(zk0 9 hf (by omega)).bind fun o hoo=> .ite (fun _=> ?_) fun _=> .ret ⟨m-1,by omega,i+1,w1,by omega,by rw [List.length_set];exact hl,hset hb z0 z1,hoo.up (by omega)⟩
  refine(zcH _ hoo (by omega)).bind fun q ⟨hq,hh⟩=> .ret ⟨m-1,by omega,i+1,w1,by omega,by rw [List.length_set,List.length_set];exact hl,hset (hset hb z0 z1) hq.1 (by have:=hq.2.1 (by omega);omega),hh.up (by omega)⟩
 ·exact .ret ((zuY (c:=⟨a,b,e⟩) ht hrs hI h11 hl hb ho (by omega)).mono fun p hp=>⟨hp.1,hp.2.up (by omega)⟩)
theorem zvd {t:zab} {c:zad} {k:Int} (hg:zag t=true) (hne:t.fIdxs≠ []) (h:okC c k) (hk:k≤4611686018427000000):
  zbj (zbC c.fcode c.fat c.fseed t.fName t.fCols t.fIdxs) fun p=>ShD 0 p.1∧okC p.2 (k+2000):=by
 unfold zbC
 have hS:=zc9 hg
 have hpos:0<t.fIdxs.length:=List.length_pos_iff.2 hne
 have hm:=List.getElem_mem hpos
 rw [show getI t.fIdxs 0=some t.fIdxs[0]from zae hpos,Option.bind_some]
 refine(zcH 4 (c:=⟨c.fcode,c.fat,c.fseed⟩) h (by omega)).bind fun p ⟨hp,hc⟩=> ?_
 have p2:=hp.2.1 (by omega)
 have hI:zji t t.fIdxs[0].fName=true:=by
  unfold zji
  have:=zkl (fun y:za7=>y.fName==t.fIdxs[0].fName) t.fIdxs
  rw [show(t.fIdxs.any fun y=>y.fName==t.fIdxs[0].fName)=true from List.any_eq_true.2 ⟨_,hm,by simp⟩]at this
  rw [hg,this];rfl
 rw [show(⟨t.fName,t.fCols,t.fIdxs⟩:zab)=t from rfl,zyj hS (zpu hg hm),Option.bind_some]
 have ek:zgu t (zhc (fun y:za7=>y.fName==t.fIdxs[0].fName) t.fIdxs) p.1=zgu t (kOf t t.fIdxs[0].fName) p.1:=rfl
 rw [ek]
 have hI2:=zyp (c:=p.1) hI (zaE.2 ⟨hp.1,by omega⟩)
 generalize t.fIdxs[0]=y at hI2
 generalize zgu t (kOf t y.fName) p.1=t' at hI2
 have hg':=zdu hI2
 have hS':=zc9 hg'
 refine(zA4 hg' hc (by omega)).bind fun l ⟨⟨hl,hcnt⟩,hd⟩=> ?_
 have hll:=hl.len
 rw [zpB hS'.name (by omega) (fun w hw=>zl3 (hl.good w hw)),Option.bind_some]
 have hR:(rows t' l.1).length≤5:=by unfold rows;rw [List.length_map];exact hcnt
 have hRg: ∀r∈rows t' l.1,zaq t' r=true:=fun r hr=>zov hr
 generalize rows t' l.1=R at hR hRg
 refine zft (fun m s=> ∃i:Nat,s.2=(i:Int)∧i+m=R.length∧zjj i s.1∧ ∀w∈s.1,w.fGone=false) (fun m s hJ=> ?_) (n:=R.length) (by exact⟨0,rfl,by omega,⟨.nil,by simp,by simp⟩,by simp⟩)
 obtain⟨i,e1,e2,hT,hgo⟩:=hJ
 obtain⟨ws,s1⟩:=s
 dsimp only at e1 hT hgo ⊢
 subst e1
 have hwl:=hT.len
 unfold zfS
 refine .ite (fun hlt=> ?_) fun hge=> ?_
 ·simp only [decide_eq_true_eq]at hlt
  have hi:i<R.length:=by omega
  have w1:IntKind.i64.wrap ((i:Int)+1)=((i+1:Nat):Int):=by rw [zaH (by omega) (by omega)];omega
  have hgr:=hRg _ (List.getElem_mem hi)
  obtain⟨hs,h2⟩:=zgl hg' hgr
  have hne:R[i].fVals≠ []:=fun e=>by rw [e]at h2;simp at h2
  have hw:=zk9 hg' hgr
  rw [zae hi,Option.bind_some,zoz hS'.name hs.small hne,Option.bind_some,zkT (by omega) hT.rise,Option.bind_some]
  exact .ret ⟨m-1,by omega,i+1,w1,by omega,zev hT (w:=zeW t' R[i]) (znF hw.1 hw.2),fun w hw=>by
   rcases znc hw with rfl|hw
   ·rfl
   ·exact hgo w hw⟩
 ·exact .ret ((zt4 hI2 (hT.mono (by omega)) (by rw [zmV hT.rise hT.good hgo];exact decide_eq_true (by omega)) hl hd (by omega)).mono fun p hp=>⟨hp.1,hp.2.up (by omega)⟩)
def zEe:Int:=3000000000000000
theorem zyP {c:zad} {k:Int} (h:okC c k) (hs:sd c) (hl:(c.fcode.length:Int)≤1048576) (hk:k≤1000000000000000000):zbj (zbb c) fun p=>ShD 0 p.1∧okC p.2 (k+zEe):=by
 have hc0:=h.2.1
 have hm:zx2=70368744177664:=rfl
 obtain⟨p,hp,hg,hne⟩:=(zuG (1048576+zx2) h (by omega)).and (zpF 1048576 zx2 h (by omega) hs (by omega) fun h1 h2 h3=>zxj h1 (by omega) h3)
 rw [zzD _ hp hne]
 refine(zvd hg.1 hne hg.2 (by omega)).mono fun q hq=>⟨hq.1,hq.2.up ?_⟩
 unfold zEe
 omega
theorem zsV {c:zad} {k:Int} (h:okC c k) (hs:sd c) (hl:(c.fcode.length:Int)≤1048576) (hk:k≤1000000000000000000):zbj (zck c) fun p=>ShD 1 p.1∧okC p.2 (k+zEe+100):=by
 unfold zck
 have hf:zEe=3000000000000000:=rfl
 refine(zyP h hs hl hk).bind fun s ⟨hS,hc⟩=>(zcH 14 hc (by omega)).bind fun q ⟨_,hd⟩=> ?_
 have h1:=hS.ways
 have h2:=hS.at_
 have h3:=hS.store.len
 have h4:=hS.few
 refine .ite (fun _=> ?_) fun _=> .ite (fun _=> ?_) fun _=> .ite (fun _=> ?_) fun _=> .ite (fun _=> ?_) fun _=> .ite (fun _=> .ret ⟨⟨hS.name,by simp,by simp,by simp,by dsimp only;omega,by dsimp only;omega,hS.store⟩,hd.up (by omega)⟩) fun _=> .ite (fun _=> ?_) fun _=> .ret ⟨⟨hS.name,by dsimp only;omega,by simp,hS.way,by dsimp only;omega,by dsimp only;omega,hS.store⟩,hd.up (by omega)⟩
 ·refine(zcH 6 hd (by omega)).bind fun u ⟨_,he⟩=> .req (by simp;omega) (.ret ⟨⟨hS.name,by dsimp only;omega,by simp,hS.way,by simp;omega,by dsimp only;omega,hS.store⟩,he.up (by omega)⟩)
 ·refine(zno hd (by omega)).bind fun u ⟨hu,he⟩=> .req (by simp;omega) (.ret ⟨⟨hS.name,by simp;omega,by simp,fun t ht=> ?_,by dsimp only;omega,by dsimp only;omega,hS.store⟩,he.up (by omega)⟩)
  dsimp only at ht
  rcases List.mem_append.1 ht with ht|ht
  ·exact hS.way t ht
  ·rw [List.mem_singleton.1 ht];exact hu
 ·refine(zxK _ (by simp) hd (by omega)).bind fun u ⟨hu,he⟩=> .ret ⟨⟨?_,by dsimp only;omega,by simp,hS.way,by dsimp only;omega,by dsimp only;omega,hS.store⟩,he.up (by omega)⟩
  simp only [List.mem_cons,List.not_mem_nil,or_false]at hu
  dsimp only
  rcases hu with e|e<;>rw [e]<;>decide
 ·refine .req (by simp;omega) (.ret ⟨⟨hS.name,by dsimp only;omega,by simp,hS.way,by dsimp only;omega,by simp;omega,⟨by simp;omega,fun w hw=> ?_⟩⟩,hd.up (by omega)⟩)
  dsimp only at hw
  rcases List.mem_append.1 hw with hw|hw
  ·exact hS.store.each w hw
  ·rw [List.mem_singleton.1 hw];exact⟨by decide,by decide⟩
 ·have h5:=hS.least rfl
  refine .req (by omega) (.ret ⟨⟨hS.name, ?_,by simp,fun t ht=> ?_,by dsimp only;omega,by dsimp only;omega,hS.store⟩,hd.up (by omega)⟩)
  ·dsimp only
   unfold ze8
   rw [List.length_drop,List.length_take];omega
  ·dsimp only at ht
   unfold ze8 at ht
   exact hS.way t (List.mem_of_mem_take (List.mem_of_mem_drop ht))
theorem zvk {c:zad} {k:Int} {s:zaf} (hS:ShD 1 s) (h1:1≤s.fWays.length) (h:okC c k) (hk:k≤4611686018427000000):zbj (zcA c s) fun p=>zoP p.1.fAct∧okC p.2 (k+200):=by
 unfold zcA
 refine(zcH _ h (by omega)).bind fun p ⟨_,hc⟩=>(zk0 3 hc (by omega)).bind fun u hu=> .ite (fun _=> ?_) fun _=> ?_
 ·exact(zAC _ (by simp) hu (by omega)).bind fun q ⟨_,hd⟩=> .ret ⟨⟨zfL,zfL⟩,hd.up (by omega)⟩
 ·refine zbj.bind (P:=fun t=>zag t=true) (.getI (by omega) (by omega) hS.way) fun t ht=> ?_
  exact(zEh ht hS.store hu (by omega)).bind fun a ⟨ha,hd⟩=> .ret ⟨ha,hd.up (by omega)⟩
theorem zpj {c:zad} {k:Int} {s:zaf} (hS:ShD 1 s) (h:okC c k) (hk:k≤4611686018426000000):zbj (zbF c s) fun p=>zoP p.1.fAct∧okC p.2 (k+300):=by
 unfold zbF
 refine .ite (fun _=> .ret ⟨⟨zfL,zfL⟩,h.up (by omega)⟩) fun _=> .ite (fun _=> .ret ⟨⟨zfL,zfL⟩,h.up (by omega)⟩) fun h0=> ?_
 have h1:1≤s.fWays.length:=by
  have: ¬(s.fWays.length:Int)=0:=by simpa using h0
  omega
 refine zbj.bind (P:=fun _=>True) (.getI (by omega) (by omega) fun _ _=>trivial) fun t _=> .ite (fun _=> .ret ⟨⟨zfL,zfL⟩,h.up (by omega)⟩) fun _=> ?_
 refine(zvk hS h1 h (by omega)).bind fun a ⟨ha,hc⟩=>(zcH 14 hc (by omega)).bind fun q ⟨_,hd⟩=> ?_
 refine .ite (fun _=> ?_) fun _=> .ite (fun _=> ?_) fun _=> .ite (fun _=> ?_) fun _=> .ret ⟨⟨ha.old,ha.new⟩,hd.up (by omega)⟩
 ·exact(zcH 5 hd (by omega)).bind fun u ⟨_,he⟩=> .ret ⟨⟨ha.old,ha.new⟩,he.up (by omega)⟩
 ·exact(zcH 5 hd (by omega)).bind fun u ⟨_,he⟩=> .ret ⟨⟨ha.old,ha.new⟩,he.up (by omega)⟩
 ·exact(zcH 5 hd (by omega)).bind fun u ⟨_,he⟩=> .ret ⟨⟨ha.old,ha.new⟩,he.up (by omega)⟩
theorem zpl {code:List Int} (h: ∀b∈code,0≤b∧b≤255) (hl:(code.length:Int)≤1048576):zbj (zdT code) fun p=>ShD 1 p.1∧zoP p.2.fAct:=by
 unfold zdT zey
 have hf:zEe=3000000000000000:=rfl
 refine zbj.bind (P:=fun p:zaf × zap=>ShD 1 p.1∧zoP p.2.fAct) ((zsV (.start h) ⟨by simp,by simp⟩ (by dsimp only;omega) (by omega)).bind fun s ⟨hS,hc⟩=>(zpj hS hc (by omega)).bind fun a ⟨ha,_⟩=> .ret ⟨hS,ha⟩) fun p hp=> .ret hp
end Go.Proofs.YtgobcjbjogkpjaaGreatDoor
end
section
namespace Go.Proofs.YtgobcjbjogkpjaaGreatDoor
open Go.RowKit
set_option maxRecDepth 100000
theorem zAT {s:zaf} (hS:zfb s) (hg:zij s):zdO s=some (zw5 (zdF s))∧zcr s=some (zw5 (zdF s)):=by
 obtain⟨h1,h4,hA,_,h3,hB,hR⟩:=hg
 have h3:=zaE.1 h3
 have hst: ∀y∈s.fAt,∃tb x,getI s.fWays y=some tb∧tb∈s.fWays∧zfO tb s.fName x∧zdg tb s.fName=x.fStage:=fun y hy=>by
  obtain⟨tb,q1,q2,_⟩:=zip (hB y hy).1 (by have:=(hB y hy).2;omega:y<s.fWays.length)
  obtain⟨x,q3,q4,_⟩:=zli (hA tb q2)
  exact⟨tb,x,q1,q2,q3,q4⟩
 have hn:(zdF s).length=s.fAt.length:=by simp [zdF]
 have hl:(zdF s).length≤2000000:=by have:=hS.at_;omega
 constructor
 ·refine zwc (s:=s) (st:=zdF s) hn hl fun i hi=> ?_
  have hi':i<s.fAt.length:=by omega
  obtain⟨tb,x,q1,q2,q3,q4⟩:=hst _ (List.getElem_mem hi')
  refine⟨s.fAt[i],tb,_,x,zae hi',q1,zmr (hS.way _ q2),q3.at_, ?_⟩
  simp only [zdF,List.getElem_map,q1,Option.getD_some,q4]
 ·refine zyA (s:=s) (st:=zdF s) hn hl fun i hi=> ?_
  have hi':i<s.fAt.length:=by omega
  obtain⟨tb,x,q1,q2,q3,q4⟩:=hst _ (List.getElem_mem hi')
  refine⟨tb, ?_, ?_⟩
  ·unfold zaG
   rw [zae hi',Option.bind_some,q1,Option.bind_some]
  ·rw [ztL (hS.way _ q2) q3]
   simp only [zdF,List.getElem_map,q1,Option.getD_some,q4]
theorem zAs {s:zaf} (hS:zfb s) (hg:zij s):zd9 s.fAt=some (zic s.fAt)∧zbp s=some (zic s.fAt):=by
 have hb: ∀y∈s.fAt,0≤y∧y≤3:=fun y hy=>by
  have:=hg.2.2.2.2.2.1 y hy
  have:=hg.2.1
  omega
 have h3:=zaE.1 hg.2.2.2.2.1
 exact⟨ztg hS.at_ hb,zwu hS.at_ (by omega) hb⟩
structure zF3 (s:zaf) (g:Bool):Prop where
 gs:zbJ s=some g
 gi:zbI s=some g
 hs:zgG s=some (if g=true then(zqt s,true)else(false,false))
 hi:zfs s=some (if g=true then(zqt s,true)else(false,false))
 cs:zfk s=some (if g=true then(zic s.fAt,true)else(false,false))
 ci:zd0 s=some (if g=true then(zic s.fAt,true)else(false,false))
 ns:zgJ s=some (if g=true then(zw5 (zdF s),true)else(0,false))
 ni:zgR s=some (if g=true then(zw5 (zdF s),true)else(0,false))
 good:g=true↔zij s
theorem zyO {s:zaf} (hS:zfb s): ∃g,zF3 s g:=by
 obtain⟨g,e1,f1⟩:=zym hS
 obtain⟨g2,e2,f2⟩:=zzx hS
 have hg:g=g2:=by rw [Bool.eq_iff_iff,f1,f2]
 subst hg
 cases g with
 |false=>
  refine⟨false,e1,e2, ?_, ?_, ?_, ?_, ?_, ?_,f1⟩
  ·unfold zgG;rw [e1];rfl
  ·unfold zfs;rw [e2];rfl
  ·unfold zfk;rw [e1];rfl
  ·unfold zd0;rw [e2];rfl
  ·unfold zgJ;rw [e1];rfl
  ·unfold zgR;rw [e2];rfl
 |true=>
  have hgs:=f1.1 rfl
  obtain⟨h1,h2⟩:=zsO hS hgs
  obtain⟨c1,c2⟩:=zAs hS hgs
  obtain⟨n1,n2⟩:=zAT hS hgs
  refine⟨true,e1,e2, ?_, ?_, ?_, ?_, ?_, ?_,f1⟩
  ·unfold zgG;rw [e1,Option.bind_some,if_neg (by simp),h1];rfl
  ·unfold zfs;rw [e2,Option.bind_some,if_neg (by simp),h2];rfl
  ·unfold zfk;rw [e1,Option.bind_some,if_neg (by simp),c1];rfl
  ·unfold zd0;rw [e2,Option.bind_some,if_neg (by simp),c2];rfl
  ·unfold zgJ;rw [e1,Option.bind_some,if_neg (by simp),n1];rfl
  ·unfold zgR;rw [e2,Option.bind_some,if_neg (by simp),n2];rfl
theorem zAR {s:zaf} (hS:zfb s):ziP s s=some true:=by
 unfold ziP
 rw [if_pos (by simp),zyr hS.ways hS.way,Option.bind_some,if_pos rfl,zBX hS.at_,Option.bind_some,if_pos rfl,zAz hS.store.1];rfl
theorem zvQ:zfb zvs:=⟨by simp [zvs],by simp [zvs],by simp [zvs],by simp [zvs],⟨by simp [zvs],by simp [zvs]⟩⟩
structure zFG (s:zaf) (a:zap) (g:Bool) (r:zaf × Bool × Bool) (m:Bool × Bool):Prop where
 gs:zcp s a=some g
 gi:zbM s a=some g
 ss:zeC s a=some r
 si:zeM s a=some r
 ms:zeP s a=some m
 mi:zfI s a=some m
 ok:r.2.2=g
 small:zfb r.1
 on:g=true→zij s∧zBG s a∧zEV s r.1∧zcZ s a=some (r.1,r.2.1)∧(a.fStep≠0→m.1=(r.2.1&&(zic r.1.fAt&&zqt r.1)))
theorem zBY {s:zaf} {a:zap} (hS:zfb s) (hA:zi8 a.fAct): ∃g r m,zFG s a g r m:=by
 obtain⟨g,e1,e2,f⟩:=zoW hS hA
 obtain⟨m,m1,m2⟩:=zuv hS hA
 cases g with
 |false=>
  refine⟨false,(zvs,false,false),m,e1,e2, ?_, ?_,m1,m2,rfl,zvQ,fun h=>by cases h⟩
  ·unfold zeC;rw [e1];rfl
  ·unfold zeM;rw [e2];rfl
 |true=>
  obtain⟨hg,ha⟩:=f rfl
  obtain⟨r,k1,k2,k3⟩:=zqL hS hg hA ha
  refine⟨true,(r.1,r.2,true),m,e1,e2, ?_, ?_,m1,m2,rfl,k3.small,fun _=>⟨hg,ha,k3,k1,fun h0=> ?_⟩⟩
  ·unfold zeC;rw [e1,Option.bind_some,if_neg (by simp),k1];rfl
  ·unfold zeM;rw [e2,Option.bind_some,if_neg (by simp),k2];rfl
  ·have hm:=zE5 hS hg hA ha k1
   unfold zeP at m1
   rw [e1,Option.bind_some,if_neg (by simpa using h0),hm,Option.bind_some]at m1
   cases m1
   rfl
theorem zAP (c b:List Int) (hc:okL zC5 c) (_:okL zC5 b) (z0:c.length≤140737488351232) (z1:b.length≤140737488351232):zhM c b=some true:=by
 unfold zhM
 refine zFR (fun _=>rfl) fun hlen=> ?_
 have hl:(c.length:Int)≤1048576:=by
  simp only [decide_eq_false_iff_not]at hlen
  rw [zaH (by omega) (by omega)]at hlen
  omega
 obtain⟨⟨s,a⟩,hd,hD,hA⟩:=zpl hc.2 hl
 dsimp only at hD hA
 have hS:=hD.small (by omega)
 obtain⟨g,Q⟩:=zyO hS
 obtain⟨ga,r,m,T⟩:=zBY (a:=a) hS hA.small
 refine(zeV hd).trans ((zeV T.si).trans ((zeV T.ss).trans ((zeV T.mi).trans ((zeV T.ms).trans ((zeV Q.hi).trans ((zeV Q.hs).trans ((zeV Q.ci).trans ((zeV Q.cs).trans ((zeV Q.ni).trans ((zeV Q.ns).trans ?_))))))))))
 refine zyc (by simp) (zyc (by simp) ((zeV (zAR T.small)).trans (zFY rfl (zyc (by simp) (zyc (by simp) (zyc (by simp) (zyc (by simp) (zyc (by simp) (zyc (by simp) (zyc (by simp) (zyc (by simp) ?_)))))))))))
 refine(zeV Q.gi).trans ((zeV Q.gs).trans (zyc (by simp) ((zeV T.gi).trans (zyc (by rw [T.ok];simp) (zFR (fun _=>rfl) fun hend=> ?_)))))
 simp only [Bool.or_eq_false_iff,Bool.not_eq_false',Bool.and_eq_false_iff]at hend
 obtain⟨⟨⟨h1,h2⟩,h3⟩,h4⟩:=hend
 have hga:ga=true:=by rw [←T.ok];exact h1
 obtain⟨hg,ha,hN,hdo,hm⟩:=T.on hga
 have hgt:=Q.good.2 hg
 rw [if_pos hgt]at h2 h3
 have hk:=zxT hS hg hA.small ha hdo h2 h3 fun h0=>by
  have hm1:m.1=true:=by
   rcases h4 with h4|h4
   ·simp at h4;exact absurd h4 h0
   ·simpa using h4
  rw [hm h0]at hm1
  simp only [Bool.and_eq_true]at hm1
  exact hm1.2
 obtain⟨g',Q'⟩:=zyO hN.small
 have hgt':=Q'.good.2 hN.good
 refine(zeV Q'.hi).trans ((zeV Q'.ci).trans ?_)
 rw [if_pos hgt',if_pos hgt']
 dsimp only at hk ⊢
 rw [hk.1,hk.2];rfl
end Go.Proofs.YtgobcjbjogkpjaaGreatDoor
end
section
namespace Go.Proofs.YtgobcjbjogkpjaaGreatDoor
open Go.RowKit
set_option maxRecDepth 100000
theorem zvZ {H:Type} {enc:TypeId × Value→H} {P:Program} {w:World} {base:Nat} {sp:Nat→Bool} {held:Bool} {fuel:Nat} {t:TypeId} {cs:List Value} {n:String} {d:DataW H} {p:List MemPlace} {u:TypeDesc}
  (ht:P.underlying t=some u) (hu:(match u with| .interface _=>true|_=>false)=true) (h:DataW.trod enc P w base sp held fuel t cs=some (.iface n d,p)): ∃a v,cs= [.iface a v]:=by
 cases fuel with
 |zero=>simp [DataW.trod]at h
 |succ fuel=>
  cases u<;>first|(cases hu;done)|skip
  simp only [DataW.trod,ht]at h
  split at h<;>first|(exact⟨_,_,rfl⟩)|(simp at h;done)|(simp_all;done)
noncomputable def zEg (s:String):Bool:=match(Tryz.prog.globalNamed s).bind (fun g=>(Tryz.prog.globals[g]?).map (·.type))with
 |some t=>(match Tryz.prog.underlying t with|some (.interface _)=>true|_=>false)
 |none=>false
noncomputable def zCw (s:String):Bool:=match(Tryz.prog.globalNamed s).bind (fun g=>(Tryz.prog.globals[g]?).map (·.type))with
 |some t=>(match Tryz.prog.underlying t with
  |some (.array n e)=>(match Tryz.prog.underlying e with|some (.int .u64)=>true|_=>false)&&Tryz.prog.cellsOf e==1&&Tryz.prog.cellsOf t==n
  |_=>false)
 |none=>false
theorem zxc {s:String} {D:DataW Unit} {W:World} (h:laidMet Tryz.prog [(s,D)] W) (hc:zEg s=true) (hd: ∃n d,D= .iface n d): ∃t p,W.var? Tryz.prog s=some #[.iface t p]:=by
 obtain⟨ps,⟨g,t,cs,fuel,p,q,hg,ht,hvar,htr,_,_⟩,_⟩:=h
 obtain⟨n,d,rfl⟩:=hd
 unfold zEg at hc
 rw [hg,Option.bind_some,ht]at hc
 simp only at hc
 cases hu:Tryz.prog.underlying t with
 |none=>rw [hu]at hc;cases hc
 |some u=>
  obtain⟨a,v,e⟩:=zvZ hu (by rw [hu]at hc;cases u<;>first|rfl|cases hc) htr
  refine⟨a,v, ?_⟩
  rw [hvar]
  congr 1
  apply Array.ext'
  rw [e]
theorem zEo {s:String} {W:World} (h:laidMet Tryz.prog [(s,Lib.tabData .u64 Lib.pow10Tab)] W) (hc:zCw s=true):Lib.TabIs Tryz.prog W s .u64 Lib.pow10Tab:=by
 have h0:=h
 obtain⟨ps,⟨g,t,cs,fuel,p,q,hg,ht,hvar,htr,_,_⟩,_⟩:=h
 unfold zCw at hc
 rw [hg,Option.bind_some,ht]at hc
 simp only at hc
 split at hc
 ·rename_i n e hu
  simp only [Bool.and_eq_true,beq_iff_eq]at hc
  obtain⟨⟨h1,h2⟩,h3⟩:=hc
  split at h1
  ·rename_i he
   exact Lib.tabIs_of_head hg ht hu he h2 h3 h0
  ·cases h1
 ·cases hc
theorem zCV {laid:List (String × DataW Unit)} {D1 D2 D3:DataW Unit} {W:World} (h:laidMet Tryz.prog laid W)
  (e1:(laid.filter fun x=>x.1== "strconv.ErrSyntax")= [("strconv.ErrSyntax",D1)]) (i1: ∃n d,D1= .iface n d)
  (e2:(laid.filter fun x=>x.1== "strconv.ErrRange")= [("strconv.ErrRange",D2)]) (i2: ∃n d,D2= .iface n d)
  (e3:(laid.filter fun x=>x.1== "internal/strconv.uint64pow10")= [("internal/strconv.uint64pow10",D3)]) (i3:D3=Lib.tabData .u64 Lib.pow10Tab):pkW.n≤W.heap.size∧pkW.K W:=by
 have h1:=h.filter fun x=>x.1== "strconv.ErrSyntax"
 have h2:=h.filter fun x=>x.1== "strconv.ErrRange"
 have h3:=h.filter fun x=>x.1== "internal/strconv.uint64pow10"
 rw [e1]at h1
 rw [e2]at h2
 rw [e3,i3]at h3
 have k:pkK W:=⟨zxc h1 (by kernel_rfl) i1,zxc h2 (by kernel_rfl) i2,(zEo h3 (by kernel_rfl)).trans (by kernel_rfl)⟩
 exact⟨zD3 k,k⟩
end Go.Proofs.YtgobcjbjogkpjaaGreatDoor
end
