/- Parts of a proof, joined: NW, NY, NSA, NKC. -/
import Derived.Test.YtgobcjbjogkpjaaGreatDoorK14
section
namespace Go.Proofs.YtgobcjbjogkpjaaGreatDoor
open Go.RowKit
set_option maxRecDepth 100000
def zC5 (a:zae):Bool:=((a.fKind==0)&&((a.fOld.fVals.length:Int)==0))&&((a.fNew.fVals.length:Int)==0)
structure zC6 (s:zlv) (a:znU):Prop where
 srv:0≤a.fServer∧a.fServer≤(s.fAt.length:Int)-1
 step:a.fStep=0∨a.fStep=1∨a.fStep= -1
 act:a.fStep=0→ ∃y t,getI s.fAt a.fServer=some y∧getI s.fWays y=some t∧t∈s.fWays∧zaU t a.fAct=true
theorem zqq {t:zab} {n:Str} (h:zmn t n=true):zac t=true:=by
 unfold zmn at h
 simp only [Bool.and_eq_true]at h
 exact h.1
structure zC0 (s r:zlv):Prop where
 good:zCt r
 small:zBm r
 name:r.fName=s.fName
 ways:r.fWays=s.fWays
 at_:r.fAt.length=s.fAt.length
end Go.Proofs.YtgobcjbjogkpjaaGreatDoor
end
section
namespace Go.Proofs.YtgobcjbjogkpjaaGreatDoor
open Go.RowKit
set_option maxRecDepth 100000
end Go.Proofs.YtgobcjbjogkpjaaGreatDoor
end
section
namespace Go.Proofs.YtgobcjbjogkpjaaGreatDoor
open Go.RowKit
set_option maxRecDepth 100000
theorem ztF {t:zab} {n:Str} (h:zmn t n=true):zh2 t n (xOf t n)∧zs1 t n=(xOf t n).fStage∧xOf t n∈t.fIdxs∧0≤zs1 t n∧zs1 t n≤3∧zac t=true:=by
 obtain⟨x,hx,e,h0,h3,hg⟩:=ztL h
 rw [zuN hx]
 exact⟨hx,e,zr0 hx.at_,by omega,by omega,hg⟩
theorem zro {n:Str}: ∀l:List zbD,zho (fun x:zbD=>x.fName==n) l=zho (· ==n) (l.map (·.fName))
 | []=>rfl
 |x::l=>by rw [List.map_cons,zgV,zgV,zro l]
theorem zAh (t:zab) (n:Str) (k c:Int):kOf (zcH t k c) n=kOf t n:=by
 unfold kOf
 rw [zro,zro,zi2]
theorem zr3 {t:zab} {n:Str} {c:Int} (h:zmn t n=true):xOf (zcH t (kOf t n) c) n={xOf t n with fStage:=c}:=by
 have hx:=(ztF h).1
 have hl:=(zkW hx.at_).2.2
 have h0:=(zkW hx.at_).1
 have hk:(kOf t n).toNat<t.fIdxs.length:=by
  have:zho (fun y:zbD=>y.fName==n) t.fIdxs=kOf t n:=rfl
  rw [this]at hl h0
  omega
 unfold xOf
 rw [zAh]
 unfold zcH
 dsimp only
 rw [List.getElem?_set_self hk]
 rfl
theorem zwe {t t':zab} {n:Str} {x x':zbD} {lv:Int} {st:List zaa} (h1:t.fName=t'.fName) (h2:t.fCols=t'.fCols) (h3:x.fCol=x'.fCol):holds t n x lv st=holds t' n x' lv st:=by
 cases t;cases t';cases x;cases x'
 dsimp only at h1 h2 h3
 subst h1;subst h2;subst h3
 rfl
end Go.Proofs.YtgobcjbjogkpjaaGreatDoor
end
section
namespace Go.Proofs.YtgobcjbjogkpjaaGreatDoor
open Go.RowKit
set_option maxRecDepth 100000
theorem zxv (t:zab) (k c:Int) (j:Nat): ∃s,((zcH t k c).fIdxs[j]?).getD ⟨[],0,0⟩={((t.fIdxs[j]?).getD ⟨[],0,0⟩)with fStage:=s}∧(s=((t.fIdxs[j]?).getD ⟨[],0,0⟩).fStage∨s=c):=by
 unfold zcH
 dsimp only
 rw [List.getElem?_set]
 split
 ·rename_i h
  subst h
  split
  ·exact⟨c,rfl, .inr rfl⟩
  ·rename_i h2
   rw [List.getElem?_eq_none (by omega)]
   exact⟨0,rfl, .inl rfl⟩
 ·exact⟨_,rfl, .inl rfl⟩
theorem zyx {t:zab} {k c:Int} (h:zac t=true) (hc:inB c 0 3=true):zac (zcH t k c)=true:=by
 have hl:(zcH t k c).fIdxs.length=t.fIdxs.length:=by unfold zcH;simp
 unfold zac at h ⊢
 simp only [Bool.and_eq_true]at h ⊢
 obtain⟨⟨⟨h1,h2⟩,h3⟩,h4⟩:=h
 refine⟨⟨⟨h1,h2⟩,by rw [hl];exact h3⟩, ?_⟩
 rw [hl]
 rw [List.all_eq_true]at h4 ⊢
 intro i hi
 have hq:=h4 i hi
 unfold zkY at hq ⊢
 obtain⟨s,e,hs⟩:=zxv t k c i
 obtain⟨s',e',_⟩:=zxv t k c (i-1)
 dsimp only at hq ⊢
 rw [e,e']
 simp only [Bool.and_eq_true]at hq ⊢
 refine⟨⟨⟨hq.1.1.1,hq.1.1.2⟩, ?_⟩,hq.2⟩
 rcases hs with rfl|rfl
 ·exact hq.1.2
 ·exact hc
theorem ztE {t:zab} {n:Str} {c:Int} (h:zmn t n=true) (hc:inB c 0 3=true):zmn (zcH t (kOf t n) c) n=true:=by
 unfold zmn at h ⊢
 rw [Bool.and_eq_true]at h ⊢
 exact⟨zyx h.1 hc,by rw [zxM (n:=n) (zi2 t (kOf t n) c)];exact h.2⟩
theorem zq7 {t:zab} {n:Str} {c:Int} {a:zae} (h:zmn t n=true) (hc:inB c 0 3=true) (ha:zaU t a=true):zsD (zcH t (kOf t n) c) a n (xOf (zcH t (kOf t n) c) n)∧(xOf (zcH t (kOf t n) c) n).fStage=c:=by
 have f:=ztF (ztE h hc)
 exact⟨zyh f.2.2.2.2.2 f.2.2.1 f.1.name ha,ztl h⟩
theorem zzD {l:List zaa} {w:zaa} (hr:zfb l) (hw:w∈l):l.find? (fun y=>y.fKey==w.fKey)=some w:=by
 cases hf:l.find? (fun y=>y.fKey==w.fKey)with
 |none=>
  rw [List.find?_eq_none]at hf
  have:=hf w hw
  simp at this
 |some z=>
  have hz:=List.mem_of_find?_eq_some hf
  have hk:z.fKey=w.fKey:=by simpa using List.find?_some hf
  rw [zmh.nodupKey (key:=fun w:zaa=>w.fKey) hr hz hw hk]
theorem zoW: ∀(ws rows:List zaa),(ws.foldl (fun o w=>zfB wk w o) rows).length≤rows.length+ws.length
 | [],rows=>by simp
 |w::ws,rows=>by
  rw [List.foldl_cons,List.length_cons]
  have h1:=zoW ws (zfB wk w rows)
  have h2:=zlg w rows
  omega
theorem zwd (rows ws:List zaa):(zdN rows ws).length≤rows.length+ws.length:=by
 unfold zdN
 exact Nat.le_trans (List.length_filter_le _ _) (zoW ws rows)
theorem zrG {t:zab} {a:zae} {st:List zaa} (hg:zac t=true) (ha:zaU t a=true) (hr:zax st=true) (hl:st.length≤16) (h1:a.fKind=1→ ∀w∈st,w.fKey≠(zdq t a.fNew).fKey) (h2:a.fKind≠1→zdq t a.fOld∈st):
  (zdb st (zdL t a)).2=true∧(zdb st (zdL t a)).1.length≤st.length+8:=by
 obtain⟨o,rest,e,hw,hk,k1,k7⟩:=zoQ t a
 obtain⟨ol,oo⟩:=zhk hg ha
 have hR0:=(zdM hr).1
 have h8:=(zqY ol oo hR0).2.2.len
 have hpl:=zwd st (zjf st (zdL t a)).1
 have hrun:(zjf st (zdL t a)).2=true:=by
  rw [e]
  have hk67:o.fKind=6∨o.fKind=7:=by
   by_cases k:a.fKind=1
   ·rw [k1 k];exact .inl rfl
   ·rw [k7 k];exact .inr rfl
  rw [zsO (st:=st) (o:=o) (rest:=rest) (by omega) (by omega) hk]
  have hok:zqi o (zbL st o.fKey).fVal (zbL st o.fKey).fThere=true:=by
   by_cases k:a.fKind=1
   ·rw [k1 k]
    unfold zqi zbL
    rw [if_pos rfl]
    have:st.find? (fun w=>w.fKey==(zdq t a.fNew).fKey)=none:=List.find?_eq_none.2 fun w hw=>by simpa using h1 k w hw
    dsimp only
    rw [this];rfl
   ·rw [k7 k]
    unfold zqi zbL
    rw [if_neg (by simp)]
    dsimp only
    rw [zzD hR0.rise (h2 k)]
    simp
  rw [if_pos hok]
 unfold zdb
 rw [if_pos ⟨hrun,by omega⟩]
 exact⟨rfl,by dsimp only;omega⟩
theorem zpo {t:zab} {a:zae} {st:List zaa} (hg:zac t=true) (ha:zaU t a=true) (hr:zax st=true):zf7 t st a=((zdb st (zdL t a)).1,(zdb st (zdL t a)).2,true):=by
 unfold zf7
 rw [hg,ha,hr];rfl
theorem ztP {t:zab} {n:Str} {r:za5} (h:zmn t n=true) (hr:zam t r=true):
  ∃s1 s2,zf7 (zcH t (kOf t n) 2) [] ⟨1,⟨[]⟩,r⟩=(s1,true,true)∧zf7 (zcH t (kOf t n) 0) s1 ⟨2,r,⟨[]⟩⟩=(s2,true,true)∧zax s1=true∧zax s2=true∧holds (zcH t (kOf t n) 0) n (xOf (zcH t (kOf t n) 0) n) 1 s2=false:=by
 have ga1:zaU t ⟨1,⟨[]⟩,r⟩=true:=by unfold zaU;rw [if_pos rfl,hr];rfl
 have ga2:zaU t ⟨2,r,⟨[]⟩⟩=true:=by unfold zaU;rw [if_neg (by simp),if_pos rfl,hr];rfl
 obtain⟨A1,st1⟩:=zq7 (c:=2) h (by decide) ga1
 obtain⟨A2,st2⟩:=zq7 (c:=0) h (by decide) ga2
 have hn1:zax []=true:=by decide
 obtain⟨d1,l1⟩:=zrG (st:= []) A1.tab (a:=⟨1,⟨[]⟩,r⟩) ga1 hn1 (by simp) (by simp) (fun k=>absurd rfl k)
 obtain⟨ol,oo⟩:=zhk A1.tab (a:=⟨1,⟨[]⟩,r⟩) ga1
 have g1:=zmb ol oo hn1
 obtain⟨_,B1⟩:=ziF A1.asG hn1 d1
 have e1:=zpo A1.tab (a:=⟨1,⟨[]⟩,r⟩) ga1 hn1
 rw [d1]at e1
 generalize hs1:(zdb [] (zdL (zcH t (kOf t n) 2) ⟨1,⟨[]⟩,r⟩)).1=s1 at e1 g1 B1 l1
 have hrow:zdq t r∈s1:=(B1 _).2 ⟨rfl, .inl (A1.new_mem (by simp))⟩
 have hent:(⟨zcY t n (xOf t n).fCol r, [],false⟩:zaa)∈s1:=by
  refine(B1 _).2 ⟨rfl, .inl (A1.idx_mem ?_)⟩
  unfold zko
  refine List.mem_append.2 (.inr ?_)
  have ek:zm2 (zcH t (kOf t n) 2) ⟨1,⟨[]⟩,r⟩ (xOf (zcH t (kOf t n) 2) n)=zcY t n (xOf t n).fCol r:=by
   rw [A1.newK_eq (by simp),A1.name,zr3 h];rfl
  rw [ek,if_pos ⟨zuU _ _ _ _,by rw [st1];omega⟩]
  exact List.mem_singleton.2 rfl
 obtain⟨d2,l2⟩:=zrG (st:=s1) A2.tab (a:=⟨2,r,⟨[]⟩⟩) ga2 g1 (by simp at l1;omega) (fun k=>by simp at k) (fun _=>hrow)
 obtain⟨ol2,oo2⟩:=zhk A2.tab (a:=⟨2,r,⟨[]⟩⟩) ga2
 have g2:=zmb ol2 oo2 g1
 obtain⟨_,B2⟩:=ziF A2.asG g1 d2
 have e2:=zpo A2.tab (a:=⟨2,r,⟨[]⟩⟩) ga2 g1
 rw [d2]at e2
 generalize hs2:(zdb s1 (zdL (zcH t (kOf t n) 0) ⟨2,r,⟨[]⟩⟩)).1=s2 at e2 g2 B2
 refine⟨s1,s2,e1,e2,g1,g2, ?_⟩
 rw [←Bool.not_eq_true,zoG]
 intro hO
 have f:=ztF h
 have hlt:zaS n 1=true:=A2.let_
 have hcol:=A2.col
 have hck:zbj (zcH t (kOf t n) 0) n (zcY t n (xOf t n).fCol r)=true:=by
  have:=ziz (n:=n) (m:=n) (c:=(xOf t n).fCol) f.2.2.2.2.2 hlt hr (by have:=f.1.c0;omega) f.1.c1
  rw [decide_eq_true rfl]at this
  exact this
 have hent2:(⟨zcY t n (xOf t n).fCol r, [],false⟩:zaa)∈s2:=by
  refine(B2 _).2 ⟨rfl, .inr ⟨hent,fun w hw e=> ?_⟩⟩
  have hi:=A2.entry_write hw (by rw [e];exact hck)
  rcases A2.idx_key hi with⟨_,_,_,k⟩|⟨_,k,_⟩
  ·rw [st2]at k;omega
  ·exact k rfl
 obtain⟨q,q1,q2,q3⟩:=hO _ hent2 hck
 obtain⟨hgr,hwr⟩:=zfz q2
 have hxc:(xOf (zcH t (kOf t n) 0) n).fCol=(xOf t n).fCol:=by rw [zr3 h]
 rw [hxc]at q3
 have hp:=zo8 (t:=t) f.2.2.2.2.2 hlt hr hgr q3
 obtain⟨_,k|⟨k1,k2⟩⟩:=(B2 q).1 q1
 ·exact(A2.row_write k q2).2 rfl
 ·obtain⟨w,hw,e⟩:=A2.rowWs_some (show(2:Int)≠1 by decide)
  refine k2 w hw ?_
  rw [e,hwr,zc9,zc9]
  show t.fName++ [47]++zdV r 0=t.fName++ [47]++zdV (zdp q) 0
  rw [hp]
theorem ztO {t:zab} {n:Str} {r:za5} (h:zmn t n=true) (hr:zam t r=true):
  ∃u,zf7 (zcH t (kOf t n) 1) [] ⟨1,⟨[]⟩,r⟩=(u,true,true)∧zax u=true∧holds (zcH t (kOf t n) 3) n (xOf (zcH t (kOf t n) 3) n) 2 u=false:=by
 have ga1:zaU t ⟨1,⟨[]⟩,r⟩=true:=by unfold zaU;rw [if_pos rfl,hr];rfl
 obtain⟨A1,st1⟩:=zq7 (c:=1) h (by decide) ga1
 have hn1:zax []=true:=by decide
 obtain⟨d1,l1⟩:=zrG (st:= []) A1.tab (a:=⟨1,⟨[]⟩,r⟩) ga1 hn1 (by simp) (by simp) (fun k=>absurd rfl k)
 obtain⟨ol,oo⟩:=zhk A1.tab (a:=⟨1,⟨[]⟩,r⟩) ga1
 have g1:=zmb ol oo hn1
 obtain⟨_,B1⟩:=ziF A1.asG hn1 d1
 have e1:=zpo A1.tab (a:=⟨1,⟨[]⟩,r⟩) ga1 hn1
 rw [d1]at e1
 generalize hs1:(zdb [] (zdL (zcH t (kOf t n) 1) ⟨1,⟨[]⟩,r⟩)).1=s1 at e1 g1 B1
 refine⟨s1,e1,g1, ?_⟩
 rw [←Bool.not_eq_true,zwe (t:=zcH t (kOf t n) 3) (t':=zcH t (kOf t n) 1) (x:=xOf (zcH t (kOf t n) 3) n) (x':=xOf (zcH t (kOf t n) 1) n) rfl rfl (by rw [zr3 h,zr3 h]),zpr A1]
 rintro⟨_,hL⟩
 have hrow:zdq t r∈s1:=(B1 _).2 ⟨rfl, .inl (A1.new_mem (by simp))⟩
 obtain⟨w,w1,w2⟩:=hL (zdq t r) hrow (zvh A1.tab hr)
 rw [ziX (zqq h) hr]at w2
 obtain⟨_,k|⟨k,_⟩⟩:=(B1 w).1 w1
 ·have hcol:=A1.col
  have he:zbj (zcH t (kOf t n) 1) n w.fKey=true:=by
   rw [w2]
   have:=ziz (n:=n) (m:=n) (c:=(xOf (zcH t (kOf t n) 1) n).fCol) A1.tab A1.let_ (r:=r) hr (by omega) hcol.2
   rw [decide_eq_true rfl]at this
   exact this
  rcases A1.idx_key (A1.entry_write k he)with⟨_,k,_⟩|⟨_,_,k⟩
  ·exact k rfl
  ·rw [st1]at k;omega
 ·simp at k
theorem zst {t:zab} {r:za5} (hS:zbA t) (hr:Small r.fVals):zeP t r=some (zac t&&zam t r):=by
 unfold zeP
 rw [znI hS,Option.bind_some]
 cases zac t with
 |false=>rfl
 |true=>rw [if_pos rfl,zhx hr];rfl
theorem zwJ {t:zab} {r:za5} (hS:zbA t) (hr:Small r.fVals):zgG t r=some (zac t&&zam t r):=by
 unfold zgG
 rw [znJ hS,Option.bind_some]
 cases zac t with
 |false=>rfl
 |true=>rw [if_pos rfl,zhD hr];rfl
theorem zoP {t:zab} {n:Str} {lv:Int} {l:List zaa} (h1:zmn t n=true) (h2:inB lv 0 2=true) (h3:zax l=true) (h:holds t n (xOf t n) lv l=false):zfV t n lv l=(false,true):=by
 unfold zfV zkU
 rw [h1,h2,h3,h];rfl
theorem zzb (a b:List Int) (ha:okL ztV a) (_:okL ztV b):zgJ a b=some true:=by
 unfold zgJ
 refine zxw (fun _=>rfl) fun _=> ?_
 obtain⟨⟨t,r⟩,hd,hS,hv⟩:=zp4 ha.2
 dsimp only at hS hv
 have hr:=hv.small
 refine(zaK hd).trans ?_
 obtain⟨⟨t0,n,ok⟩,hq0,hS0,hn,hok,hno⟩:=zlZ (c:=0) hS
 obtain⟨⟨t2,n2,ok2⟩,hq2,hS2,_,hok2,hno2⟩:=zlZ (c:=2) hS
 obtain⟨⟨t1,n1,ok1⟩,hq1,hS1,_,hok1,hno1⟩:=zlZ (c:=1) hS
 obtain⟨⟨t3,n3,ok3⟩,hq3,hS3,_,hok3,hno3⟩:=zlZ (c:=3) hS
 dsimp only at hS0 hn hok hno hS2 hok2 hno2 hS1 hok1 hno1 hS3 hok3 hno3
 refine(zaK hq0).trans ((zaK hq2).trans ((zaK hq1).trans ((zaK hq3).trans ?_)))
 have hlast:ok=false→(zac t&&zam t r)=false∨t.fIdxs.length=0:=fun h=>by
  rcases hno h with h|h|h
  ·exact .inr h
  ·rw [h];exact .inl rfl
  ·cases h
 refine zxw (fun hk=> ?_) fun hk=> ?_
 ·obtain⟨x,hx0,rfl,hI,_,rfl⟩:=hok hk
  have hg:zac t=true:=zqq hI
  have hne: ¬t.fIdxs.length=0:=fun e=>by
   rw [List.getElem?_eq_none (by omega)]at hx0
   cases hx0
  have fx: ∀{c:Int} {ok':Bool} {n':Str} {t':zab},(ok'=true→ ∃x,t.fIdxs[0]?=some x∧n'=x.fName∧zmn t x.fName=true∧inB c 0 3=true∧t'=zcH t (kOf t x.fName) c)→(ok'=false→t.fIdxs.length=0∨zac t=false∨inB c 0 3=false)→inB c 0 3=true→t'=zcH t (kOf t x.fName) c:=by
   intro c ok' n' t' h1 h2 h3
   cases ok' with
   |true=>
    obtain⟨y,hy,_,_,_,e⟩:=h1 rfl
    rw [hx0]at hy
    cases hy
    exact e
   |false=>
    rcases h2 rfl with h|h|h
    ·exact absurd h hne
    ·rw [hg]at h;cases h
    ·rw [h3]at h;cases h
  obtain rfl:=fx hok2 hno2 (by decide)
  obtain rfl:=fx hok1 hno1 (by decide)
  obtain rfl:=fx hok3 hno3 (by decide)
  refine(zaK (zwJ hS hr)).trans (zxw (fun hb=> ?_) fun hb=> ?_)
  ·refine(zaK (zst hS hr)).trans ?_
   have:(zac t&&zam t r)=false:=by
    rw [Bool.not_eq_true']at hb;exact hb
   rw [this];rfl
  ·have hgr:zam t r=true:=by
    have:(zac t&&zam t r)=true:=by simpa using hb
    rw [Bool.and_eq_true]at this
    exact this.2
   obtain⟨s1,s2,e1,e2,g1,g2,hh⟩:=ztP hI hgr
   obtain⟨u,e3,g3,hh3⟩:=ztO hI hgr
   have A1:zh1 ⟨1,⟨[]⟩,r⟩:=⟨zlF.small,hr⟩
   have A2:zh1 ⟨2,r,⟨[]⟩⟩:=⟨hr,zlF.small⟩
   have W0:zgO []:=⟨by simp,by simp⟩
   refine(zaK ((zrE hS2 W0 A1).trans (congrArg some e1))).trans ((zaK ((zrE hS0 (ziB g1) A2).trans (congrArg some e2))).trans ((zaK ((zpf hS0 (ziB g2)).trans (congrArg some (zoP (ztE hI (by decide)) (by decide) g2 hh)))).trans (zvO (by simp) ?_)))
   exact(zaK ((zrE hS1 W0 A1).trans (congrArg some e3))).trans ((zaK ((zpf hS3 (ziB g3)).trans (congrArg some (zoP (ztE hI (by decide)) (by decide) g3 hh3)))).trans rfl)
 ·refine(zaK (zst hS hr)).trans ?_
  rcases hlast (by simpa using hk)with h|h
  ·rw [h];rfl
  ·simp [h]
end Go.Proofs.YtgobcjbjogkpjaaGreatDoor
end
