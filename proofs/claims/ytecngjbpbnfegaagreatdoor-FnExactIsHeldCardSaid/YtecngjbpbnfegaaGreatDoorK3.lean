/- Parts of a proof, joined: VO, VP, VQ, VR, Lib2, VS, VT, VU, VV, VW, VX, WB, WC, WD, WE, WF. -/
import Derived.Test.YtecngjbpbnfegaaGreatDoorK2
import Derived.Laws.BytesArg
import Derived.Orders
section
namespace Go.Proofs.YtecngjbpbnfegaaGreatDoor
open Go.RowKit
section
variable {P:Program} {c:Cx} {n nx:Nat} {sl sl0:Nat→SV} {hp hp0:Nat→Option Ent} {a:Act} {o:Oper} {gs:Gd} {e:Eff} {sg:SgT} {nv:Nat}
theorem Pre.toE (h:Pre P c n nx sl hp a sl0 hp0 o gs) {x:Operand} {s:SV} (hs:zan sl0 gs x=some s) (hm:x∈o.op.operands) {y:E} (hy:zfb hp0 gs zaj s=some y):
  ∃f,Rd c.w [a.eval x] [y.den c.ρ] f∧ ∀b∈f,c.see (zcz hp0 gs (zaj+1) [s]) b:=zhe h.eh h.gs zaj hy (h.opd hs hm) zaj (Nat.le_refl _)
theorem zxW (h:Pre P c n nx sl hp a sl0 hp0 o gs) {x:Operand} {t:TypeId} {cl:Call} (ho:o.op= .call cl) (hcl:cl.callee= .builtin .len) (ha1:cl.args.toList= [x]) (ha2:cl.argTypes.toList= [t]) (he:zb2 P sg sl0 hp0 nv nx gs o=some e) (hc: ∀q∈e.chk,Cn.den c.ρ q):zbJ P o c n nx sl hp gs a e:=by
 have hargs:cl.args= #[x]:=by apply Array.ext';simp [ha1]
 have htys:cl.argTypes= #[t]:=by apply Array.ext';simp [ha2]
 have hm:x∈o.op.operands:=by simp [ho,Op.operands,Call.operands,hcl,hargs]
 simp only [zb2,ho,hcl,ha1,ha2,Option.bind_eq_some_iff]at he
 obtain⟨s,hs,he⟩:=he
 unfold zzb at he
 have ex:(execOp a.eval o).run P c.w=((Builtin.len_ #[t] o.type #[a.eval x]).run P c.w).andThen fun v w=> .ok (.value v) w:=by
  simp [execOp,ho,resolve,hcl,hargs,htys,invoke,builtin]
 split at he
 ·rename_i el hu
  obtain⟨y,hy,rfl⟩:=Option.map_eq_some_iff.1 he
  obtain⟨f,q1,q2⟩:=h.toE hs hm hy
  have hd:(y.den c.ρ).len≠ .undef:=hc1 hc
  cases hy':y.den c.ρ<;>simp only [hy',AV.len,ne_eq,not_true_eq_false]at hd
  rename_i xs
  have hl:(y.den c.ρ).len= .int .i64 (xs.length:Int):=by rw [hy'];rfl
  have hin:InK .i64 (xs.length:Int):=by
   rw [zlU]
   rcases q1.kind with hh|hh|hh|hh|hh|hh|hh|hh|hh|hh
   all_goals first
    |(obtain⟨_,_,_,hh,_⟩:=hh;rw [hy']at hh;cases hh;done)
    |(obtain⟨_,_,hh,_⟩:=hh;rw [hy']at hh;cases hh;done)
    |skip
   ·obtain⟨_,_,_,hh,_⟩:=hh;rw [hy']at hh;cases hh;simp [IntKind.min,IntKind.max,IntKind.signed,IntKind.bits]
   ·obtain⟨_,_,_,_,_,_,_,_,_,_,_,_,hh,_,_,_,hle,hlen,_⟩:=hh;rw [hy']at hh;cases hh;simp [IntKind.min,IntKind.max,IntKind.signed,IntKind.bits];omega
   all_goals first
    |(obtain⟨_,_,_,hh,_⟩:=hh;rw [hy']at hh;cases hh;done)
    |(obtain⟨_,_,_,_,_,_,_,hh,_⟩:=hh;rw [hy']at hh;cases hh;done)
    |(obtain⟨_,_,_,_,hh,_⟩:=hh;rw [hy']at hh;cases hh;done)
    |(obtain⟨_,hh,_⟩:=hh;rw [hy']at hh;cases hh;done)
  refine zbJ.pure h (v:= .int .i64 xs.length) ?_ (.ofRd0 (by simp only [E.den,hy',AV.len];exact .int hin .nil)) rfl
  rcases zkx q1 hl with⟨p,q,hv,hm0⟩|⟨b,o',k,q,hv,hm0⟩
  ·rw [ex,hv,hm0];simp [Builtin.len_,run_underlying hu,goInt]
  ·rw [ex,hv,hm0];simp [Builtin.len_,run_underlying hu,goInt]
 ·rename_i hu
  obtain⟨y,hy,rfl⟩:=Option.map_eq_some_iff.1 he
  obtain⟨f,q1,q2⟩:=h.toE hs hm hy
  have hd:(y.den c.ρ).slen≠ .undef:=hc1 hc
  cases hy':y.den c.ρ<;>simp only [hy',AV.slen,ne_eq,not_true_eq_false]at hd
  obtain⟨bs,hv,rfl,hle⟩:=zrp q1 hy'
  refine zbJ.pure h (v:= .int .i64 bs.size) ?_ (.ofRd0 ?_) rfl
  ·rw [ex,hv];simp [Builtin.len_,run_underlying hu,goInt]
  ·simp only [E.den,hy',AV.slen]
   have:(bs.data.toList.length:Int)=(bs.size:Int):=by simp
   rw [this]
   refine .int ?_ .nil
   rw [zlU];simp [IntKind.min,IntKind.max,IntKind.signed,IntKind.bits];omega
 ·cases he
theorem ztC (h:Pre P c n nx sl hp a sl0 hp0 o gs) {x:Operand} {src dst:TypeId} {k0 k:IntKind} (ho:o.op= .convert src dst x) (h1:P.underlying src=some (.int k0)) (h2:P.underlying dst=some (.int k)) (he:zb2 P sg sl0 hp0 nv nx gs o=some e) (hc: ∀q∈e.chk,Cn.den c.ρ q):zbJ P o c n nx sl hp gs a e:=by
 have hm:x∈o.op.operands:=by simp [ho,Op.operands]
 simp only [zb2,ho,Option.bind_eq_some_iff]at he
 obtain⟨s,hs,he⟩:=he
 simp only [zpq,h1,h2,Option.map_eq_some_iff]at he
 obtain⟨y,hy,rfl⟩:=he
 obtain⟨f,q1,_⟩:=zdr (h.opd hs hm) hy
 have hd:(y.den c.ρ).conv k≠ .undef:=hc1 hc
 cases hy':y.den c.ρ<;>simp only [hy',AV.conv,ne_eq,not_true_eq_false]at hd
 rename_i k1 m
 obtain⟨hv,_⟩:=zhn q1 hy'
 exact zbJ.pure h (v:= .int k (k.wrap m)) (by simp [execOp,ho,hv,convert,run_underlying h1,run_underlying h2,Conv.intToInt]) (.ofRd0 (by simp only [E.den,hy',AV.conv];exact .int (zoG _ _) .nil)) rfl
theorem ztv (h:Pre P c n nx sl hp a sl0 hp0 o gs) {x:Operand} {src dst:TypeId} (ho:o.op= .convert src dst x) (h1:P.underlying src=some .string) (h2:P.underlying dst=some .string) (he:zb2 P sg sl0 hp0 nv nx gs o=some e) (hc: ∀q∈e.chk,Cn.den c.ρ q):zbJ P o c n nx sl hp gs a e:=by
 have hm:x∈o.op.operands:=by simp [ho,Op.operands]
 simp only [zb2,ho,Option.bind_eq_some_iff]at he
 obtain⟨s,hs,he⟩:=he
 simp only [zpq,h1,h2,Option.map_eq_some_iff]at he
 obtain⟨y,hy,rfl⟩:=he
 obtain⟨f,q1,_⟩:=zdr (h.opd hs hm) hy
 have hd:(y.den c.ρ).slen≠ .undef:=hc1 hc
 cases hl:y.den c.ρ<;>simp only [hl,AV.slen,ne_eq,not_true_eq_false]at hd
 obtain⟨bs,hv,hle,hle2⟩:=zrp q1 hl
 exact zbJ.pure h (v:= .string bs) (by simp [execOp,ho,hv,convert,run_underlying h1,run_underlying h2]) (.ofRd0 (by rw [hl,hle];exact Rd.str hle2 .nil)) rfl
theorem zyT {w:World}: ∀{ys:List AV} {s:List UInt8} {cs:List Value} {f:List Nat},u8s ys=some s→Rd w cs (zaQ ys) f→ ∃ns:List Int,cs=ns.map (Value.int .u8)∧s=ns.map (fun n=>UInt8.ofNat n.toNat)∧ns.length=ys.length
 | [],s,cs,f,h,hr=>by
  have:zaQ ([]:List AV)= []:=rfl
  rw [this]at hr
  cases hr
  cases h
  exact⟨[],rfl,rfl,rfl⟩
 |y::ys,s,cs,f,h,hr=>by
  unfold u8s at h
  split at h
  ·rename_i h0;cases h0
  ·rename_i n xs he
   cases he
   obtain⟨s',h1,rfl⟩:=Option.map_eq_some_iff.1 h
   have hr':Rd w cs (.int .u8 n::zaQ ys) f:=by simpa [zaQ,AV.cells]using hr
   cases hr' with
   |int hk hr2=>
    obtain⟨ns,rfl,rfl,hl⟩:=zyT h1 hr2
    exact⟨n::ns,rfl,rfl,by simp [hl]⟩
  ·cases h
theorem zsu (h:Pre P c n nx sl hp a sl0 hp0 o gs) {x:Operand} {src dst el:TypeId} (ho:o.op= .convert src dst x) (h1:P.underlying src=some (.slice el)) (h2:P.underlying dst=some .string) (he:zb2 P sg sl0 hp0 nv nx gs o=some e) (hc: ∀q∈e.chk,Cn.den c.ρ q):zbJ P o c n nx sl hp gs a e:=by
 have hm:x∈o.op.operands:=by simp [ho,Op.operands]
 simp only [zb2,ho,Option.bind_eq_some_iff]at he
 obtain⟨s,hs,he⟩:=he
 simp only [zpq,h1,h2]at he
 split at he
 ·rename_i hu
  obtain⟨y,hy,rfl⟩:=Option.map_eq_some_iff.1 he
  obtain⟨f,q1,q2⟩:=h.toE hs hm hy
  have hd:(y.den c.ρ).text≠ .undef:=hc1 hc
  cases hy':y.den c.ρ<;>simp only [hy',AV.text,ne_eq,not_true_eq_false]at hd
  rename_i xs
  split at hd
  ·rename_i t ht
   split at hd
   ·rename_i hle
    have hden:(E.text y).den c.ρ= .str t:=by
     simp only [E.den,hy',AV.text,ht]
     rw [if_pos hle]
    have fin: ∀ns:List Int,t=ns.map (fun n=>UInt8.ofNat n.toNat)→ns.length=xs.length→(convert src dst (a.eval x)).run P c.w= .ok (.string (ns.foldl (fun r n=>r.push (UInt8.ofNat n.toNat)) ByteArray.empty)) c.w→zbJ P o c n nx sl hp gs a {chk:= [.dfd (.text y)],val:= .e (.text y)}:=fun ns e1 e2 e3=>by
     have e4:(ns.foldl (fun r n=>r.push (UInt8.ofNat n.toNat)) ByteArray.empty)=⟨t.toArray⟩:=by
      rw [foldl_push_bytes,e1]
      simp [ByteArray.empty,ByteArray.emptyWithCapacity]
      try rfl
     rw [e4]at e3
     refine zbJ.pure h (v:= .string ⟨t.toArray⟩) (by simp [execOp,ho,e3]) (.ofRd0 ?_) rfl
     rw [hden]
     have hsz:(ByteArray.mk t.toArray).size≤9223372036854775807:=by
      simp only [ByteArray.size,List.size_toArray]
      rw [e1,List.length_map];omega
     have:=Rd.str (w:=c.w) (s:=⟨t.toArray⟩) hsz .nil
     simpa using this
    rw [hy']at q1
    rcases q1.kind with hh|hh|hh|hh|hh|hh|hh|hh|hh|hh
    all_goals first
     |(obtain⟨_,_,_,hh,_⟩:=hh;cases hh;done)
     |(obtain⟨_,_,hh,_⟩:=hh;cases hh;done)
     |skip
    ·obtain⟨p,q,hv,hx,_⟩:=hh
     cases hx
     cases ht
     refine fin [] rfl rfl ?_
     rw [hv]
     cases p with
     |none=>rw [run_convert_bytes_nil c.w src el h1 hu _ _ dst h2];rfl
     |some ad=>
      rw [run_convert_bytes_string c.w src dst el _ 0 q h1 hu h2,run_bytesToString c.w ad 0 q [] (by simp [loadCells,loadCellsFrom])]
    ·obtain⟨b,o',k,q,ys,cs,C,t',fz,sz,f1,hv,hx,_,hb,_,hle',hlen,_,_,hcs,hr⟩:=hh
     cases hx
     obtain⟨ns,rfl,e1,e2⟩:=zyT ht hr.2
     refine fin ns e1 e2 ?_
     have hl:ns.length=k:=by omega
     have hcell: ∀i,i<k→c.w.cell? ⟨b,o'+i,none⟩=some (.int .u8 (ns.getD i 0)):=fun i hi=>by
      have hi':i<ns.length:=by omega
      have:=hcs i (.int .u8 ns[i]) (by simp [hi'])
      rw [zax hb,this]
      simp [hi']
     have:=run_convert_bytes_arg c.w src el h1 hu b o' k q ns hl hcell dst h2
     rw [hv,this]
     congr 2
     rw [foldl_push_bytes]
     simp [strOfNums,ByteArray.empty,ByteArray.emptyWithCapacity]
     try rfl
    all_goals first
     |(obtain⟨_,_,_,hh,_⟩:=hh;cases hh;done)
     |(obtain⟨_,_,_,_,_,_,_,hh,_⟩:=hh;cases hh;done)
     |(obtain⟨_,_,_,_,hh,_⟩:=hh;cases hh;done)
     |(obtain⟨_,hh,_⟩:=hh;cases hh;done)
   ·exact absurd rfl hd
  ·exact absurd rfl hd
 ·cases he
theorem zte {ρ:List AV} {x:E} {b:Bool} {gs:Gd} (h1:x.den ρ= .bool b) (h2:zeF ρ gs):zeF ρ ((x,b)::gs):=by
 intro g hg
 rcases List.mem_cons.1 hg with rfl|hg
 ·exact h1
 ·exact h2 g hg
theorem zw1 (h:Pre P c n nx sl hp a sl0 hp0 o gs) {x y z:Operand} (ho:o.op= .pick x y z) (he:zb2 P sg sl0 hp0 nv nx gs o=some e) (hc: ∀q∈e.chk,Cn.den c.ρ q):zbJ P o c n nx sl hp gs a e:=by
 have hm1:x∈o.op.operands:=by simp [ho,Op.operands]
 have hm2:y∈o.op.operands:=by simp [ho,Op.operands]
 have hm3:z∈o.op.operands:=by simp [ho,Op.operands]
 simp only [zb2,ho,Option.bind_eq_some_iff]at he
 obtain⟨s,hs,he⟩:=he
 have hr:=h.opd hs hm1
 split at he
 ·rename_i q
  have ex: ∀b,a.eval x= .bool b→(execOp a.eval o).run P c.w= .ok (.value (if b then a.eval y else a.eval z)) c.w:=fun b hb=>by
   simp [execOp,ho,hb,asBool]
  obtain⟨f,q1⟩: ∃f,Rd c.w [a.eval x] [q.den c.ρ] f:=by
   generalize a.eval x=v at hr
   cases hr with
   |e h1 _ _=>exact⟨_,h1⟩
  unfold zxe at he
  split at he
  ·obtain⟨s',hs',rfl⟩:=Option.map_eq_some_iff.1 he
   exact zbJ.pure h (v:=a.eval y) (ex true (zgG q1 rfl)) (h.opd hs' hm2) rfl
  ·obtain⟨s',hs',rfl⟩:=Option.map_eq_some_iff.1 he
   exact zbJ.pure h (v:=a.eval z) (ex false (zgG q1 rfl)) (h.opd hs' hm3) rfl
  ·split at he
   ·rename_i y' z' hy hz
    simp at he;subst he
    simp only [Option.bind_eq_some_iff]at hy hz
    obtain⟨sy,hsy,hy⟩:=hy
    obtain⟨sz,hsz,hz⟩:=hz
    have hd:(q.den c.ρ).notB≠ .undef:=hc1 hc
    cases hq:q.den c.ρ<;>simp only [hq,AV.notB,ne_eq,not_true_eq_false]at hd
    rename_i b
    cases b with
    |true=>
     have r:=zhZ (a:=a) hsy (fun t ht=>by subst ht;rw [h.sl t hm2];exact h.rel.slots t) (zte hq h.gs)
     obtain⟨f',g1,g2⟩:=zdr r hy
     exact zbJ.pure h (v:=a.eval y) (ex true (zgG q1 hq)) (.e (f:=f') (by simpa [E.den,hq,AV.cond]using g1) g2 .nil) rfl
    |false=>
     have r:=zhZ (a:=a) hsz (fun t ht=>by subst ht;rw [h.sl t hm3];exact h.rel.slots t) (zte hq h.gs)
     obtain⟨f',g1,g2⟩:=zdr r hz
     exact zbJ.pure h (v:=a.eval z) (ex false (zgG q1 hq)) (.e (f:=f') (by simpa [E.den,hq,AV.cond]using g1) g2 .nil) rfl
   ·cases he
 ·cases he
end
end Go.Proofs.YtecngjbpbnfegaaGreatDoor
end
section
namespace Go.Proofs.YtecngjbpbnfegaaGreatDoor
open Go.RowKit
section
variable {P:Program} {c:Cx} {n nx:Nat} {sl sl0:Nat→SV} {hp hp0:Nat→Option Ent} {a:Act} {o:Oper} {gs:Gd} {e:Eff} {sg:SgT} {nv:Nat}
theorem zlM {w:World} {v:Value} {x:AV} {f:List Nat} (h:Rd w [v] [x] f) (h1: ∀cs,x≠ .agg cs) (h2: ∀cs,x≠ .tup cs):v.oneCell'=true:=by
 cases h<;>first
  |rfl
  |exact absurd rfl (h1 _)
  |exact absurd rfl (h2 _)
theorem zmL {v:Value} (h:v.oneCell'=true):v.cells= #[v]:=by
 cases v<;>first|rfl|(simp [Value.oneCell']at h)
theorem zkq {t:TypeId} {s:SV} {v:Value} {cs:List SV} {ck:List Cn} (h:SR c [s] [v]) (hc:znn P t s=some (cs,ck)) (hk: ∀q∈ck,q.den c.ρ):
  SR c cs v.cells.toList∧(∀u∈v.cells.toList,u.oneCell'=true):=by
 unfold znn at hc
 split at hc
 ·split at hc
  ·simp at hc;obtain⟨rfl,rfl⟩:=hc
   cases h with
   |agg h1 h2 _=>exact⟨by simpa [Value.cells]using h2,by simpa [Value.cells]using h1⟩
  ·rename_i x
   simp at hc;obtain⟨rfl,rfl⟩:=hc
   cases h with
   |e h1 h2 _=>
    obtain⟨as,has,hl⟩:=hc1 hk
    obtain⟨vs,rfl,h3,h4⟩:=zjx h1 has
    refine⟨?_,by simpa [Value.cells]using h3⟩
    have hlen:=h4.len
    have key: ∀k,k≤as.length→SR c ((List.range k).map fun j=>SV.e (.fld x j 1 false)) (vs.take k):=by
     intro k
     induction k with
     |zero=>intro _;simpa using SR.nil
     |succ k ih=>
      intro hk
      have hk':k<as.length:=by omega
      obtain⟨u,g,hu,hg,hr⟩:=h4.at (show as[k]?=some as[k] by simp [hk'])
      rw [List.range_succ,List.map_append,List.take_succ_eq_append_getElem (by omega)]
      refine(ih (by omega)).app ?_
      have hu':vs[k]'(by omega)=u:=by simpa [show k<vs.length by omega]using hu
      rw [hu']
      exact .e (f:=g) (by simpa [E.den,AV.fld,has,AV.cells,hk']using hr) (fun b hb=>h2 b (hg b hb)) .nil
    have:=key as.length (Nat.le_refl _)
    rw [←hlen,List.take_length,hlen,hl]at this
    simpa [Value.cells]using this
  ·cases hc
 ·split at hc
  ·rename_i x
   simp at hc;obtain⟨rfl,rfl⟩:=hc
   cases h with
   |e h1 h2 _=>
    have hq:(∀cs,x.den c.ρ≠ .agg cs)∧ ∀cs,x.den c.ρ≠ .tup cs:=by
     cases x<;>first
      |exact(hc1 hk:Cn.den c.ρ (.cells _ 1))
      |exact⟨by simp [E.den],by simp [E.den]⟩
    have h1c:=zlM h1 hq.1 hq.2
    rw [zmL h1c]
    exact⟨.e h1 h2 .nil,by simpa using h1c⟩
  ·cases hc
  ·cases hc
  ·cases hc
  ·cases hc
  ·cases hc
  ·cases hc
  ·cases hc
  ·simp at hc;obtain⟨rfl,rfl⟩:=hc
   have h1c:v.oneCell'=true:=by
    cases h<;>first|rfl|(rename_i hh _ _ _ _ _;exact absurd rfl (hh _))|skip
    all_goals first
     |rfl
     |exact(show∀(t g n:Nat) (p:Pth) (x:E),SV.via _ _ _ _ _=SV.via t g n p x→False from by assumption) _ _ _ _ _ rfl|>.elim
     |exact(show∀(t g n:Nat) (p:Pth) (x i:E) (sz o:Nat),SV.vptr _ _ _ _ _ _ _ _=SV.vptr t g n p x i sz o→False from by assumption) _ _ _ _ _ _ _ _ rfl|>.elim
     |(exfalso;simp_all;done)
   rw [zmL h1c]
   exact⟨h,by simpa using h1c⟩
theorem zAs (h:Pre P c n nx sl hp a sl0 hp0 o gs) (ob:Obj) (hv:Value):zza c (c.new nx ob hv []) nx:=
 ⟨rfl,rfl,rfl,rfl,fun t ht=>ht.imp id (fun hh=>by subst hh;exact⟨Nat.le_refl _,by simp [zao]⟩)⟩
theorem ziV (h:Pre P c n nx sl hp a sl0 hp0 o gs): ¬c.U nx:=h.new nx (Nat.le_refl _) (by omega)
theorem zbJ.box (h:Pre P c n nx sl hp a sl0 hp0 o gs) {ty:TypeId} {g:Bool} {cs:List SV} {v:Value} {ck:List Cn} (hr:(execOp a.eval o).run P c.w= .ok (.value (.pointer (some ⟨c.w.heap.size,0,none⟩))) (c.w.alloc (.cells v.cells ty)))
  (hs:SR c cs v.cells.toList) (h1: ∀u∈v.cells.toList,u.oneCell'=true):zbJ P o c n nx sl hp gs a {chk:=ck,val:= .bptr nx 0,ent:= [(nx,zeG gs (.box ty g cs))]}:=by
 intro next Q hk
 unfold Oper.wp
 rw [hr,Oper.upon_value]
 have hU:=ziV h
 have keep:zm4 c (c.new nx (.cells v.cells ty) (.pointer (some ⟨c.w.heap.size,0,none⟩)) []):=Cx.new_keep (fun g hg=>hU (h.rel.usedK _ _ hg))
 have hH:(c.new nx (.cells v.cells ty) (.pointer (some ⟨c.w.heap.size,0,none⟩)) []).H nx 0= .pointer (some ⟨c.w.heap.size,0,none⟩):=by simp [Cx.new]
 have hK:(c.new nx (.cells v.cells ty) (.pointer (some ⟨c.w.heap.size,0,none⟩)) []).K nx 0:= .inr ⟨rfl,rfl⟩
 have hrel:=h.rel.new hU (.cells v.cells ty) (.pointer (some ⟨c.w.heap.size,0,none⟩)) (.box ty g cs) gs h.gs (by intros;simp)
  ⟨c.w.heap.size,v.cells,hK,hH,by simp [Cx.new],by simp [Cx.new],heap_alloc_new _ _,h1,hs.keep keep⟩
 exact hk _ _ (zAs h _ _) (hrel.put ((SR.bptr hK hH .nil).mkGd gs h.gs) o.dst)
theorem zvX (h:Pre P c n nx sl hp a sl0 hp0 o gs) {t:TypeId} (ho:o.op= .alloc t) (he:zb2 P sg sl0 hp0 nv nx gs o=some e) (hc: ∀q∈e.chk,Cn.den c.ρ q):zbJ P o c n nx sl hp gs a e:=by
 simp only [zb2,ho,Option.bind_eq_some_iff]at he
 obtain⟨z,⟨i,hi,hz⟩,s,hs,⟨cs,ck⟩,hcs,he⟩:=he
 split at he
 ·cases he
 ·split at he
  ·cases he
  ·rename_i hck
   have hck:ck= []:=by simpa using hck
   simp at he;subst he
   have hs':zdf z=some s:=by simpa [zy1,hi,hz]using hs
   obtain⟨q1,q2⟩:=zkq (zkD (c:=c) hs') hcs (by simp [hck])
   refine zbJ.box h (v:=z) ?_ q1 q2
   simp [execOp,ho,Instr.alloc,zeroValue,typeInfo,hi,hz,newVar,newRow]
theorem zx6 (h:Pre P c n nx sl hp a sl0 hp0 o gs) {t:TypeId} {x:Operand} (ho:o.op= .box t x) (he:zb2 P sg sl0 hp0 nv nx gs o=some e) (hc: ∀q∈e.chk,Cn.den c.ρ q):zbJ P o c n nx sl hp gs a e:=by
 have hm:x∈o.op.operands:=by simp [ho,Op.operands]
 simp only [zb2,ho,Option.bind_eq_some_iff]at he
 obtain⟨s,hs,⟨cs,ck⟩,hcs,he⟩:=he
 split at he
 ·cases he
 ·simp at he;subst he
  obtain⟨q1,q2⟩:=zkq (h.opd hs hm) hcs hc
  refine zbJ.box h (v:=a.eval x) ?_ q1 q2
  simp [execOp,ho,Instr.box,newVar,newRow]
end
end Go.Proofs.YtecngjbpbnfegaaGreatDoor
end
section
namespace Go.Proofs.YtecngjbpbnfegaaGreatDoor
open Go.RowKit
section
variable {P:Program} {c:Cx} {n nx:Nat} {sl sl0:Nat→SV} {hp hp0:Nat→Option Ent} {a:Act} {o:Oper} {gs:Gd} {e:Eff} {sg:SgT} {nv:Nat}
def setVs {α:Type} (cs:List α) (o:Nat) (vs:List α):List α:=cs.take o++vs++cs.drop (o+vs.length)
theorem zih {α:Type} (cs vs:List α) (o:Nat) (h:o+vs.length≤cs.length) (i:Nat):(setVs cs o vs)[i]?=if o≤i∧i<o+vs.length then vs[i-o]? else cs[i]?:=by
 unfold setVs
 have ht:(cs.take o).length=o:=by rw [List.length_take];omega
 rw [List.append_assoc]
 by_cases h1:i<o
 ·rw [if_neg (by omega),List.getElem?_append_left (by omega),List.getElem?_take,if_pos h1]
 ·rw [List.getElem?_append_right (by omega),ht]
  by_cases h2:i<o+vs.length
  ·rw [if_pos (by omega),List.getElem?_append_left (by omega)]
  ·rw [if_neg (by omega),List.getElem?_append_right (by omega),List.getElem?_drop]
   congr 1;omega
theorem zix {α:Type} (cs vs:List α) (o:Nat) (h:o+vs.length≤cs.length):(setVs cs o vs).length=cs.length:=by
 simp [setVs];omega
theorem SR.setVs {cs vs:List SV} {C V:List Value} {k:Nat} (h:SR c cs C) (hv:SR c vs V):SR c (zvN cs k vs) (Go.Proofs.YtecngjbpbnfegaaGreatDoor.setVs C k V):=by
 unfold zvN Go.Proofs.YtecngjbpbnfegaaGreatDoor.setVs
 have hl:=hv.len
 rw [←hl]
 exact((h.split k).1.app hv).app (h.split _).2
theorem zuD (vs:List Value): ∀(k off:Nat) (C:Array Value),off+k+vs.length≤C.size→
  ((vs.zipIdx k).foldl (fun cs (p:Value × Nat)=>cs.setIfInBounds (off+p.2) p.1) C).toList=setVs C.toList (off+k) vs:=by
 induction vs with
 |nil=>intro k off C _;simp [setVs]
 |cons v vs ih=>
  intro k off C h
  simp only [List.length_cons]at h
  simp only [List.zipIdx_cons,List.foldl_cons]
  rw [ih (k+1) off _ (by simp;omega)]
  apply List.ext_getElem?
  intro i
  rw [zih _ _ _ (by simp;omega),zih _ _ _ (by simp;omega)]
  simp only [Array.toList_setIfInBounds,List.getElem?_set,List.length_cons,Array.length_toList]
  by_cases h1:i=off+k
  ·subst h1
   rw [if_neg (by omega),if_pos rfl,if_pos (by omega),if_pos (by omega)]
   simp
  ·by_cases h2:off+(k+1)≤i∧i<off+(k+1)+vs.length
   ·rw [if_pos h2,if_pos (by omega),show i-(off+k)=(i-(off+(k+1)))+1 by omega,List.getElem?_cons_succ]
   ·rw [if_neg h2,if_neg (by omega),if_neg (by omega)]
theorem zj6 {b off:Nat} {t:TypeId}: ∀(vs:List Value) (i:Nat) (w:World) (C:Array Value),w.heap[b]?=some (.cells C t (0,0))→off+i+vs.length≤C.size→(∀v∈vs,v.oneCell'=true)→
  (storeCells ⟨b,off,none⟩ vs i).run P w= .ok () (za1 w b (off+i) vs)
 | [],i,w,C,_,_,_=>by simp [storeCells,za1]
 |v::vs,i,w,C,hb,hl,h1=>by
  simp only [List.length_cons]at hl
  have hi:off+i<C.size:=by omega
  have hcell:w.cell? ⟨b,off+i,none⟩=some C[off+i]:=by simp [World.cell?,hb,hi]
  have hfro:w.frozen? ⟨b,off+i,none⟩=false:=by simp [World.frozen?,hb]
  have hst:(store ((⟨b,off,none⟩:Addr).add i) v).run P w= .ok () (w.setCell ⟨b,off+i,none⟩ v):=by
   rw [Addr.add_lit,run_store P w _ v _ (h1 v (by simp)),hcell]
   simp [hfro]
  have h2:=heap_setCell_same w b (off+i) C t v hb
  have ih:=zj6 (off:=off) vs (i+1) (w.setCell ⟨b,off+i,none⟩ v) _ h2 (by simp;omega) (fun x hx=>h1 x (by simp [hx]))
  simp only [storeCells,Sem.run_bind,hst,Result.andThen_ok,ih,za1]
  rw [Nat.add_assoc]
theorem zgK {w:World} {b off:Nat} {t:TypeId} {vs:List Value} {C:Array Value} (hb:w.heap[b]?=some (.cells C t (0,0))) (hl:off+vs.length≤C.size):
  Mod [b] w (za1 w b off vs)∧(za1 w b off vs).heap[b]?=some (.cells (setVs C.toList off vs).toArray t (0,0))∧(za1 w b off vs).heap.size=w.heap.size:=by
 obtain⟨hm,C',h1,h2,h3,h4⟩:=ziH vs w b off C t hb hl
 refine⟨hm, ?_, ?_⟩
 ·rw [h1]
  congr 2
  apply Array.ext'
  apply List.ext_getElem?
  intro i
  rw [zih _ _ _ (by simpa using hl)]
  by_cases hi:off≤i∧i<off+vs.length
  ·rw [if_pos hi]
   have hlt:i-off<vs.length:=by omega
   have:=h3 (i-off) vs[i-off] (by simp [hlt])
   rw [show off+(i-off)=i by omega]at this
   rw [Array.getElem?_toList,this];simp [hlt]
  ·rw [if_neg hi,Array.getElem?_toList,Array.getElem?_toList]
   exact h4 i (by omega)
 ·clear hm h1 h2 h3 h4 hl
  induction vs generalizing w off C with
  |nil=>rfl
  |cons v vs ih=>
   simp only [za1]
   rw [ih (heap_setCell_same w b off C t v hb)]
   simp [World.setCell]
theorem zl0 {w:World} {b off:Nat} {t ty:TypeId} {v:Value} {C:Array Value} (hb:w.heap[b]?=some (.cells C ty (0,0))) (ht:zlS P t=true) (hs:v.cells.size=P.cellsOf t) (hl:off+v.cells.size≤C.size) (h1: ∀u∈v.cells.toList,u.oneCell'=true):
  (Instr.storeAt t (.pointer (some ⟨b,off,none⟩)) v).run P w= .ok () (za1 w b off v.cells.toList):=by
 have:=zj6 (P:=P) (off:=off) v.cells.toList 0 w C hb (by simpa using hl) h1
 simp only [Nat.add_zero]at this
 simp [Instr.storeAt,Instr.sureAddr,storeVar,zfz ht,hs,this]
def Cx.wr (c:Cx) (w':World) (t:Nat):Cx:={c with w:=w',E:=fun u=>if u=t then c.E u+1 else c.E u}
theorem Cx.wr_keep {c:Cx} {w':World} {t b:Nat} (gw:GW c) (htop:b∈(c.G t).top) (hm:Mod [b] c.w w'):zm4 c (c.wr w' t):=by
 have hown:b∈(c.G t).own:=by simp [GI.own,htop]
 refine⟨rfl,fun q _ hq=>hq,fun q hq hok=>hm.block q hq ?_,fun u g hu=>⟨hu,rfl⟩,fun u g hu=> ?_⟩
 ·simp only [List.mem_singleton]
  rintro rfl
  exact hok.1 ⟨t,htop⟩
 ·by_cases hut:u=t
  ·have e1:(c.wr w' t).E u=c.E u+1:=by simp only [Cx.wr,if_pos hut]
   exact⟨by omega,fun h=>by omega⟩
  ·have e1:(c.wr w' t).E u=c.E u:=by simp only [Cx.wr,if_neg hut]
   rw [e1]
   refine⟨Nat.le_refl _,fun _=>⟨rfl,fun q hq hq2=>hm.block q hq2 ?_⟩⟩
   simp only [List.mem_singleton]
   rintro rfl
   exact gw.disj t u (Ne.symm hut) q hown (by simp [GI.own,hq])
theorem Rel.write (h:Rel c n sl hp a) {t:Nat} {e0:Ent} {b:Nat} {w':World} (hres:Res c.ρ (hp t) e0) (htop:b∈(c.G t).top) (hm:Mod [b] c.w w') (hsz:w'.heap.size=c.w.heap.size) (e1:Ent) (hne: ∀hs f,e1≠ .gd hs f)
  (he:zkI (c.wr w' t) t e1):Rel (c.wr w' t) n sl (zeH hp [(t,e1)]) a∧zm4 c (c.wr w' t):=by
 have hown:b∈(c.G t).own:=by simp [GI.own,htop]
 have hkeep:zm4 c (c.wr w' t):=Cx.wr_keep h.gw htop hm
 have hup: ∀u,zeH hp [(t,e1)] u=if u=t then some e1 else hp u:=fun u=>rfl
 refine⟨h.change (fun u=>u=t) hkeep ⟨hm.os.trans h.base.os,hm.tape.trans h.base.tape,hm.output.trans h.base.output,Nat.le_trans h.base.size hm.size,h.base.pins,fun q hq hmu=> ?_⟩
  (fun u hu=>⟨by rw [hup,if_neg hu],rfl,by simp [Cx.wr,hu],fun g hg=>hg⟩) (fun u hu q hq=>hm.block q (h.gw.inb u q (by simp [GI.own,hq])) ?_) (fun u hu=> ?_) ⟨h.gw.nodup,h.gw.disj,h.gw.allow,fun u q hq=> ?_⟩ h.usedK (fun u f hf=> ?_),hkeep⟩
 ·refine(hm.block q (Nat.lt_of_lt_of_le hq h.base.size) ?_).trans (h.base.block q hq hmu)
  simp only [List.mem_singleton]
  rintro rfl
  rcases h.gw.allow t q hown with hh|hh
  ·exact absurd hh (Nat.not_le.2 hq)
  ·exact hmu hh
 ·simp only [List.mem_singleton]
  rintro rfl
  exact h.gw.disj t u (Ne.symm hu) q hown (by simp [GI.own,hq])
 ·subst hu
  rw [hup,if_pos rfl]
  refine⟨fun e' hr=> ?_,fun hn=> ?_⟩
  ·cases e1<;>first
    |(simp only [Res]at hr;subst hr;exact he)
    |exact absurd rfl (hne _ _)
  ·cases e1<;>first
    |exact absurd rfl (hne _ _)
    |exact absurd rfl (hn _)
 ·show q<w'.heap.size
  rw [hsz];exact h.gw.inb u q hq
 ·rw [hup]at hf
  split at hf
  ·rename_i hu;subst hu
   cases hh:hp u with
   |none=>rw [hh]at hres;exact hres.elim
   |some e9=>exact h.usedH u e9 hh
  ·exact h.usedH u f hf
end
end Go.Proofs.YtecngjbpbnfegaaGreatDoor
end
section
namespace Go.Proofs.YtecngjbpbnfegaaGreatDoor
open Go.RowKit
section
variable {P:Program} {c:Cx} {n nx:Nat} {sl sl0:Nat→SV} {hp hp0:Nat→Option Ent} {a:Act} {o:Oper} {gs:Gd} {e:Eff} {sg:SgT} {nv:Nat}
theorem zrZ (h:Pre P c n nx sl hp a sl0 hp0 o gs) {t:TypeId} {x y:Operand} (ho:o.op= .store t x y) {b k:Nat} {s:SV} (hx:zan sl0 gs x=some (.bptr b k)) (hy:zan sl0 gs y=some s)
  (he:zhU P hp0 gs t (.bptr b k) s=some e) (hc: ∀q∈e.chk,Cn.den c.ρ q):zbJ P o c n nx sl hp gs a e:=by
 have r1:=h.opd hx (by simp [ho,Op.operands])
 have r2:=h.opd hy (by simp [ho,Op.operands])
 simp only [zhU]at he
 split at he
 ·rename_i ty g cs vs ck hl hcs
  split at he
  ·rename_i hh
   obtain⟨hty,hlen,hle,rfl⟩:=hh
   simp at he;subst he
   obtain⟨q1,q2⟩:=zkq r2 hcs hc
   generalize hv:a.eval x=v at r1
   cases r1 with
   |bptr h1 h2 h3=>
    rename_i q
    have hres0:=zaV hl h.gs
    obtain⟨q',C,e1,e2,e3,e4,e5,e5',e6⟩:=h.eh b _ hres0
    rw [h2]at e2;cases e2
    have hres:Res c.ρ (hp b) (.box ty g cs):=by
     cases hh:hp0 b with
     |none=>rw [hh]at hres0;exact hres0.elim
     |some e9=>rw [h.hp b e9 hh];rwa [hh]at hres0
    have hlC:=e6.len
    have hlV:=q1.len
    obtain⟨m1,m2,m3⟩:=zgK (vs:=(a.eval y).cells.toList) e5 (show k+_≤C.size by simp at hlC hlV ⊢;omega)
    obtain⟨hrel,hkeep⟩:=h.rel.write hres (by rw [e3];simp) m1 m3 (.box ty g (zvN cs k vs)) (by intros;simp) (w':=za1 c.w q k (a.eval y).cells.toList) (by
     have hk':zm4 c (c.wr (za1 c.w q k (a.eval y).cells.toList) b):=Cx.wr_keep h.rel.gw (by rw [e3];simp) m1
     refine⟨q,_,e1,h2,e3,e4,m2, ?_, ?_⟩
     ·intro u hu
      simp only [List.toList_toArray]at hu
      unfold setVs at hu
      simp only [List.mem_append]at hu
      rcases hu with(hu|hu)|hu
      ·exact e5' u (List.mem_of_mem_take hu)
      ·exact q2 u hu
      ·exact e5' u (List.mem_of_mem_drop hu)
     ·simpa using(e6.setVs q1 (k:=k)).keep hk')
    intro next Q hk
    unfold Oper.wp
    have hr:(execOp a.eval o).run P c.w= .ok .skip (za1 c.w q k (a.eval y).cells.toList):=by
     have:=zl0 (P:=P) (t:=t) (v:=a.eval y) (off:=k) e5 hty (by simp at hlV;omega) (by simp at hlC hlV;omega) q2
     simp [execOp,ho,hv,this]
    rw [hr,Oper.upon_skip]
    exact hk _ (c.wr (za1 c.w q k (a.eval y).cells.toList) b) ⟨rfl,rfl,rfl,rfl,fun t ht=> .inl ht⟩ (hrel.put ((SR.undef .nil).mkGd []) o.dst)
  ·cases he
 ·cases he
theorem zu1 {places:List (Nat × Nat)} {tys:List TypeId}: ∀(ps:List (Nat × SV)) (vs:List (Nat × Value)) (cs:List SV) (C:Array Value) (r:List SV × List Cn),zwT P places tys ps cs=some r→(∀q∈r.2,q.den c.ρ)→
  ps.map (·.1)=vs.map (·.1)→SR c (ps.map (·.2)) (vs.map (·.2))→SR c cs C.toList→(∀u∈C.toList,u.oneCell'=true)→
  ∃C',Instr.fill (places.toArray[·]?) C vs=some C'∧SR c r.1 C'.toList∧ ∀u∈C'.toList,u.oneCell'=true
 | [],vs,cs,C,r,h,hk,he,_,hC,h1=>by
  have:vs= []:=by simpa using he.symm
  subst this
  simp [zwT]at h;subst h
  exact⟨C,rfl,hC,h1⟩
 |(i,s)::ps, [],cs,C,r,h,hk,he,_,hC,h1=>by simp at he
 |(i,s)::ps,(j,v)::vs,cs,C,r,h,hk,he,hs,hC,h1=>by
  simp only [List.map_cons,List.cons.injEq]at he
  obtain⟨rfl,he⟩:=he
  simp only [List.map_cons]at hs
  obtain⟨hs1,hs2⟩:=hs.uncons
  unfold zwT at h
  split at h
  ·rename_i off sz t hpl hty
   split at h
   ·rename_i us ck hcs
    split at h
    ·rename_i hh
     obtain⟨hsz,hle⟩:=hh
     obtain⟨r',hr',rfl⟩:=Option.map_eq_some_iff.1 h
     obtain⟨q1,q2⟩:=zkq hs1 hcs (fun q hq=>hk q (by simp [hq]))
     have hl1:=q1.len
     have hl2:=hC.len
     have hfs:(v.cells.zipIdx.foldl (fun cs (p:Value × Nat)=>cs.setIfInBounds (off+p.2) p.1) C).toList=setVs C.toList off v.cells.toList:=by
      have:=zuD v.cells.toList 0 off C (by simp at hl1 hl2 ⊢;omega)
      rw [←Array.foldl_toList,Array.toList_zipIdx]
      simpa using this
     obtain⟨C',g1,g2,g3⟩:=zu1 ps vs (zvN cs off us) (v.cells.zipIdx.foldl (fun cs (p:Value × Nat)=>cs.setIfInBounds (off+p.2) p.1) C) r' hr' (fun q hq=>hk q (by simp [hq])) he hs2 (by rw [hfs];exact hC.setVs q1) (by
      rw [hfs]
      intro u hu
      unfold setVs at hu
      simp only [List.mem_append]at hu
      rcases hu with(hu|hu)|hu
      ·exact h1 u (List.mem_of_mem_take hu)
      ·exact q2 u hu
      ·exact h1 u (List.mem_of_mem_drop hu))
     refine⟨C', ?_,g2,g3⟩
     unfold Instr.fill
     have hpl':places.toArray[i]?=some (off,sz):=by simpa using hpl
     simp only [hpl']
     rw [if_neg (by simp at hl1 hl2 ⊢;omega)]
     exact g1
    ·cases h
   ·cases h
  ·cases h
theorem zkm {sl0:Nat→SV} {gs:Gd} (L:List Operand) (h: ∀x s,zan sl0 gs x=some s→x∈L→SR c [s] [a.eval x]): ∀{xs:List (Nat × Operand)} {ss:List (Nat × SV)},(∀x∈xs,x.2∈L)→xs.mapM (fun(p:Nat × Operand)=>(zan sl0 gs p.2).map fun s=>(p.1,s))=some ss→
  ss.map (·.1)=xs.map (·.1)∧SR c (ss.map (·.2)) (xs.map fun p=>a.eval p.2)
 | [],ss,_,hm=>by simp at hm;subst hm;exact⟨rfl, .nil⟩
 |x::xs,ss,hL,hm=>by
  rw [List.mapM_cons]at hm
  simp only [Option.bind_eq_bind,Option.bind_eq_some_iff,Option.map_eq_some_iff]at hm
  obtain⟨_,⟨s,hs,rfl⟩,ss',hss,hm⟩:=hm
  simp at hm;subst hm
  obtain⟨e1,e2⟩:=zkm L h (fun y hy=>hL y (by simp [hy])) hss
  exact⟨by simp [e1],(h _ s hs (hL x (by simp))).app e2⟩
theorem zvP (h:Pre P c n nx sl hp a sl0 hp0 o gs) {t:TypeId} {parts:Array (Nat × Operand)} (ho:o.op= .build t parts) (he:zb2 P sg sl0 hp0 nv nx gs o=some e) (hc: ∀q∈e.chk,Cn.den c.ρ q):zbJ P o c n nx sl hp gs a e:=by
 simp only [zb2,ho,Option.bind_eq_some_iff]at he
 obtain⟨ps,hps,he⟩:=he
 obtain⟨e1,e2⟩:=zkm (c:=c) (a:=a) (parts.toList.map (·.2)) (fun x s hx hm=>h.opd hx (by simpa [ho,Op.operands]using hm)) (fun x hx=>List.mem_map.2 ⟨x,hx,rfl⟩) hps
 unfold zuL at he
 split at he
 ·rename_i it fs hit hu
  split at he
  ·rename_i zs places hz hpl
   obtain⟨r,hr,rfl⟩:=Option.map_eq_some_iff.1 he
   obtain⟨z,hz0,hz1⟩:=Option.bind_eq_some_iff.1 hz
   have hzr:=zkD (c:=c) hz1
   obtain⟨cells,g1,g2,g3⟩:=zu1 (c:=c) (P:=P) ps (parts.toList.map fun p=>(p.1,a.eval p.2)) zs.toList z.cells r hr hc (by rw [e1];simp) (by rw [List.map_map];exact e2)
    (by cases hzr with|agg h1 h2 _=>simpa [Value.cells]using h2) (by cases hzr with|agg h1 h2 _=>simpa [Value.cells]using h1)
   have hb:P.built t (parts.map fun(x:Nat × Operand)=>(x.1,a.eval x.2)).toList=some cells:=by
    simp only [Program.built,hit,hu,hz0,hpl]
    simpa using g1
   have:=SR.agg (c:=c) (cs:=SVL.of r.1) (as:=cells.toList) g3 (by rw [SVL.toList_of];exact g2) .nil
   refine zbJ.pure h (v:= .agg cells) ?_ (by simpa using this) rfl
   have hrun:=run_build c.w t _ cells hb
   simp only [execOp,ho,Sem.run_bind]
   rw [hrun];rfl
  ·cases he
 ·cases he
end
end Go.Proofs.YtecngjbpbnfegaaGreatDoor
end
section
namespace Go.Proofs.YtecngjbpbnfegaaGreatDoor
open Go.RowKit
def Src (w:World) (size:Nat) (a:Option Addr) (m:Nat) (news:List Value):Prop:=
 (a=none∧m=0∧news= [])∨ ∃ad,a=some ad∧news.length=m*size∧(∀j u,news[j]?=some u→w.cell? (ad.add j)=some u)∧ ∀u∈news,u.oneCell'=true
theorem Src.mod {w w':World} {size:Nat} {a:Option Addr} {m:Nat} {news:List Value} (h:Src w size a m news) (hm:Mod [] w w'):Src w' size a m news:=by
 rcases h with h|⟨ad,h1,h2,h3,h4⟩
 ·exact Or.inl h
 ·exact Or.inr ⟨ad,h1,h2,fun j u hu=>by
   have:=h3 j u hu
   rw [hm.cell (World.block_lt_of_cell? w _ this) (by simp)];exact this,h4⟩
section
variable {P:Program}
theorem zql (w:World) (base:Nat) (t ty e:TypeId) (i:TypeInfo) (z:Value) (size bytes:Nat) (ht:P.underlying t=some (.slice e)) (hi:P.info? e=some i) (hz:i.zero=some z)
  (hsize:i.size=size) (hby:i.bytes=bytes) (hzs:z.cells.size=size) (hsz:0<size)
  (v:Value) (n:Nat) (xs:List Value) (hown:w.ownsRow base e size v n xs) (a:Option Addr) (m c:Nat) (news:List Value) (hsrc:Src w size a m news)
  (h63:n+m≤maxLen) (hbytes:(n+m)*bytes≤140737488355328) (hbase:base≤w.heap.size):
  ∃v' w',(Builtin.append_ #[t,t] ty #[v, .slice a m c]).run P w= .ok v' w'∧w'.ownsRow base e size v' (n+m) (xs++news)∧w.grownBy w' v.ownBlock:=by
 rcases hsrc with⟨rfl,rfl,rfl⟩|⟨ad,rfl,h1,h2,h3⟩
 ·refine⟨v,w, ?_,by simpa using hown,⟨rfl,rfl,rfl,Nat.le_refl _,fun _ _ _=>rfl⟩⟩
  rcases hown.2 with⟨rfl,rfl⟩|⟨g,cap,cur,rfl,_,_,hnc,_⟩
  ·simp [Builtin.append_,run_underlying ht,sizeOf,typeInfo,hi,Builtin.lenOf,Builtin.firstCells]
  ·simp [Builtin.append_,run_underlying ht,sizeOf,typeInfo,hi,Builtin.lenOf,Builtin.firstCells,hnc,storeCells]
 ·obtain⟨v',w',g1,g2,g3,_⟩:=run_append_own (P:=P) w base t ty e i z size bytes ht hi hz hsize hby hzs hsz v n xs hown ad m c news h1 h2 h3 h63 hbytes hbase
  exact⟨v',w',g1,g2,g3⟩
theorem zvm (w:World) {ops:Array Oper} {rest:List Oper} {o:Oper} {a:Act} {Q:Exit→Act→World→Prop} (hgd:o.guard=none) (s x:Operand) (t:TypeId)
  (ho:o.op= .call {callee:= .builtin .append,args:= #[s,x],argTypes:= #[t,t]})
  (base:Nat) (e:TypeId) (i:TypeInfo) (z:Value) (size bytes:Nat) (ht:P.underlying t=some (.slice e)) (hi:P.info? e=some i) (hz:i.zero=some z)
  (hsize:i.size=size) (hby:i.bytes=bytes) (hzs:z.cells.size=size) (hsz:0<size)
  (v:Value) (n:Nat) (xs:List Value) (hs:a.eval s=v) (hown:w.ownsRow base e size v n xs)
  (ad:Option Addr) (m c:Nat) (news:List Value) (hx:a.eval x= .slice ad m c) (hsrc:Src w size ad m news)
  (h63:n+m≤maxLen) (hbytes:(n+m)*bytes≤140737488355328) (hbase:base≤w.heap.size)
  (h: ∀v' w',w'.ownsRow base e size v' (n+m) (xs++news)→w.grownBy w' v.ownBlock→wpList P ops Q rest (a.put o.dst v') w'):wpList P ops Q (o::rest) a w:=
 wpList_plain hgd fun _ hK=>by
  obtain⟨v',w',hr,h2,h3⟩:=zql (P:=P) w base t o.type e i z size bytes ht hi hz hsize hby hzs hsz v n xs hown ad m c news hsrc h63 hbytes hbase
  unfold Oper.wp execOp
  simp only [ho,resolve,invoke,builtin,Sem.run_bind,Sem.run_pure,Result.andThen_ok,List.map_toArray,List.map_cons,List.map_nil,hs,hx,hr]
  exact hK _ _ (h v' w' h2 h3)
end
theorem RdS.src {α:Type} {T:GT α} {w:World} {a:Option Addr} {n:Nat} {xs:List α} {fp:List Nat} (hs:0<T.size) (h:RdS T w a n xs fp):
  ∃Ls fps,RdL T w Ls xs fps∧Src w T.size a n Ls.flatten∧(∀q∈fps.flatten,q∈fp):=by
 cases a with
 |none=>
  rcases h.2 with⟨rfl,_⟩|⟨b,o,fps,ha,_⟩
  ·have:=h.1
   simp at this;subst this
   exact⟨[], [],⟨rfl,rfl,by simp⟩,Or.inl ⟨rfl,rfl,rfl⟩,by simp⟩
  ·cases ha
 |some ad=>
  obtain⟨Ls,fps,h1,h2,h3,h4⟩:=h.cells hs
  exact⟨Ls,fps,h1,Or.inr ⟨ad,rfl,h4,h2,h1.one⟩,h3⟩
theorem zBP (w:World) (k base:Nat) (e:TypeId) (size:Nat) (hk:k=w.heap.size) (hb:base≤k):(w.alloc (.cells #[] e)).ownsRow base e size (.slice (some ⟨k,0,none⟩) 0 0) 0 []:=by
 subst hk
 exact World.ownsRow_made w #[] 0 hb (Nat.zero_le _) (by simp)
end Go.Proofs.YtecngjbpbnfegaaGreatDoor
end
section
namespace Go.Proofs.YtecngjbpbnfegaaGreatDoor
open Go.RowKit
section
variable {P:Program} {c:Cx} {n nx:Nat} {sl sl0:Nat→SV} {hp hp0:Nat→Option Ent} {a:Act} {o:Oper} {gs:Gd} {e:Eff} {sg:SgT} {nv:Nat}
def Cx.frz (c:Cx) (ts:List Nat):Cx:={c with G:=fun u=>if u∈ts then⟨[], []⟩else c.G u,E:=fun u=>if u∈ts then c.E u+1 else c.E u}
theorem Cx.frz_M {c:Cx} {ts:List Nat} {b:Nat} (h:(c.frz ts).M b): ∃u,u∉ts∧b∈(c.G u).top:=by
 obtain⟨u,hu⟩:=h
 simp only [Cx.frz]at hu
 split at hu
 ·simp at hu
 ·exact⟨u,by assumption,hu⟩
theorem Cx.frz_ok {c:Cx} {ts:List Nat} {b:Nat} (h:c.ok b):(c.frz ts).ok b:=⟨fun hm=>by obtain⟨u,_,hu⟩:=Cx.frz_M hm;exact h.1 ⟨u,hu⟩,h.2⟩
theorem Cx.frz_keep (c:Cx) (ts:List Nat):zm4 c (c.frz ts):=⟨rfl,fun _ _ h=>Cx.frz_ok h,fun _ _ _=>rfl,fun _ _ h=>⟨h,rfl⟩,fun t g _=>by
 by_cases ht:t∈ts
 ·have e1:(c.frz ts).E t=c.E t+1:=by simp only [Cx.frz,if_pos ht]
  exact⟨by omega,fun h=>by omega⟩
 ·have e1:(c.frz ts).E t=c.E t:=by simp only [Cx.frz,if_neg ht]
  have e2:(c.frz ts).G t=c.G t:=by simp only [Cx.frz,if_neg ht]
  rw [e1]
  exact⟨Nat.le_refl _,fun _=>⟨e2,fun _ _ _=>rfl⟩⟩⟩
theorem zxq {c:Cx} (gw:GW c) {ts us:List Nat} (hs: ∀t∈us,t∈ts) {b:Nat} (h:c.see us b):(c.frz ts).ok b:=by
 rcases h with h|⟨t,ht,hb⟩
 ·exact Cx.frz_ok h
 ·have hown:b∈(c.G t).own:=by simp [GI.own,hb]
  refine⟨fun hm=> ?_, .inr (gw.allow t b hown)⟩
  obtain⟨u,hu,hbu⟩:=Cx.frz_M hm
  have:t≠u:=fun hh=>hu (hh▸hs t ht)
  exact gw.disj t u this b hown (by simp [GI.own,hbu])
def ziK (e:Ent) (g:Nat) (x:E):Prop:=(∃ety sz d,e= .row ety sz g x d)∨ ∃ety sz l ep,e= .deep ety sz l g ep x
theorem ziK.ne {e:Ent} {g:Nat} {x:E} (h:ziK e g x): ∀hs f,e≠ .gd hs f:=by
 rcases h with⟨_,_,_,rfl⟩|⟨_,_,_,_,rfl⟩<;>intros<;>simp
theorem ziK.rd {e:Ent} {g t:Nat} {x:E} (h:ziK e g x) (k:zkI c t e):c.K t g∧ ∃f,Rd c.w [c.H t g] [x.den c.ρ] f∧ ∀b∈f,b∈(c.G t).top∨c.ok b:=by
 rcases h with⟨_,_,_,rfl⟩|⟨_,_,_,_,rfl⟩
 ·obtain⟨q1,q2,N,q3,q4,_⟩:=k
  obtain⟨f,r1,r2,_⟩:=q3.rd
  exact⟨q1,f,r1,fun b hb=>(r2 b hb).imp id (q4 b)⟩
 ·obtain⟨q1,q2,_,q3,_⟩:=k
  obtain⟨f,r1,r2⟩:=q3.rd
  exact⟨q1,f,r1,fun b hb=> .inl (r2 b hb)⟩
theorem ziK.fun {e:Ent} {g g':Nat} {x x':E} (h:ziK e g x) (k:ziK e g' x'):g=g'∧x=x':=by
 rcases h with⟨_,_,_,rfl⟩|⟨_,_,_,_,rfl⟩<;>rcases k with⟨_,_,_,hh⟩|⟨_,_,_,_,hh⟩<;>cases hh<;>exact⟨rfl,rfl⟩
theorem zdv {gs:Gd} {ρ:List AV} (k:zeF ρ gs): ∀{ts:List Nat} {l:List (Nat × Ent)},zbe hp0 gs ts=some l→
  (∀t e,(t,e)∈l→t∈ts∧gs= []∧ ∃g x f,e= .frz g x∧Res ρ (hp0 t) f∧ziK f g x)∧
  (∀t∈ts,(∃g x,(t,Ent.frz g x)∈l)∨(∃g x,Res ρ (hp0 t) (.frz g x))∨ ∃ty g cs,Res ρ (hp0 t) (.box ty g cs))
 | [],l,h=>by simp [zbe]at h;subst h;simp
 |t::ts,l,h=>by
  unfold zbe at h
  split at h
  ·rename_i ety sz g x d l' hl hl'
   split at h
   ·rename_i hg
    simp at h;subst h
    obtain⟨h1,h2⟩:=zdv k hl'
    refine⟨fun u e hu=> ?_,fun u hu=> ?_⟩
    ·rcases List.mem_cons.1 hu with hu|hu
     ·cases hu
      exact⟨by simp,by simpa using hg,g,x,_,rfl,zaV hl k, .inl ⟨_,_,_,rfl⟩⟩
     ·obtain⟨p,q,r⟩:=h1 u e hu
      exact⟨by simp [p],q,r⟩
    ·rcases List.mem_cons.1 hu with rfl|hu
     ·exact .inl ⟨g,x,by simp⟩
     ·rcases h2 u hu with⟨g',x',hh⟩|hh
      ·exact .inl ⟨g',x',by simp [hh]⟩
      ·exact .inr hh
   ·cases h
  ·rename_i ety sz dl g ep x l' hl hl'
   split at h
   ·rename_i hg
    simp at h;subst h
    obtain⟨h1,h2⟩:=zdv k hl'
    refine⟨fun u e hu=> ?_,fun u hu=> ?_⟩
    ·rcases List.mem_cons.1 hu with hu|hu
     ·cases hu
      exact⟨by simp,by simpa using hg,g,x,_,rfl,zaV hl k, .inr ⟨_,_,_,_,rfl⟩⟩
     ·obtain⟨p,q,r⟩:=h1 u e hu
      exact⟨by simp [p],q,r⟩
    ·rcases List.mem_cons.1 hu with rfl|hu
     ·exact .inl ⟨g,x,by simp⟩
     ·rcases h2 u hu with⟨g',x',hh⟩|hh
      ·exact .inl ⟨g',x',by simp [hh]⟩
      ·exact .inr hh
   ·cases h
  ·rename_i g x l' hl hl'
   simp at h;subst h
   obtain⟨h1,h2⟩:=zdv k hl'
   refine⟨fun u e hu=> ?_,fun u hu=> ?_⟩
   ·obtain⟨p,q,r⟩:=h1 u e hu
    exact⟨by simp [p],q,r⟩
   ·rcases List.mem_cons.1 hu with rfl|hu
    ·exact .inr (.inl ⟨g,x,zaV hl k⟩)
    ·exact h2 u hu
  ·rename_i ty g cs l' hl hl'
   simp at h;subst h
   obtain⟨h1,h2⟩:=zdv k hl'
   refine⟨fun u e hu=> ?_,fun u hu=> ?_⟩
   ·obtain⟨p,q,r⟩:=h1 u e hu
    exact⟨by simp [p],q,r⟩
   ·rcases List.mem_cons.1 hu with rfl|hu
    ·exact .inr (.inr ⟨ty,g,cs,zaV hl k⟩)
    ·exact h2 u hu
  ·cases h
theorem zhq {hp:Nat→Option Ent}: ∀{l:List (Nat × Ent)} {t:Nat},(∀e,(t,e)∉l)→zeH hp l t=hp t
 | [],_,_=>rfl
 |(u,e)::l,t,h=>by
  have ht:t≠u:=by rintro rfl;exact h e (by simp)
  have:=zhq (hp:=fun v=>if v=u then some e else hp v) (l:=l) (t:=t) (fun e' he'=>h e' (by simp [he']))
  simp only [zeH,List.foldl_cons]at this ⊢
  rw [this,if_neg ht]
theorem zsN {hp:Nat→Option Ent}: ∀{l:List (Nat × Ent)} {t:Nat} {e:Ent},(t,e)∈l→(∀e',(t,e')∈l→e'=e)→zeH hp l t=some e
 | [],_,_,h,_=>by simp at h
 |(u,f)::l,t,e,h,hu=>by
  simp only [zeH,List.foldl_cons]
  by_cases hm: ∃e',(t,e')∈l
  ·obtain⟨e',he'⟩:=hm
   have:=hu e' (by simp [he'])
   subst this
   exact zsN (hp:=fun v=>if v=u then some f else hp v) he' (fun e'' h''=>hu e'' (by simp [h'']))
  ·have hn: ∀e',(t,e')∉l:=fun e' he'=>hm ⟨e',he'⟩
   have:=zhq (hp:=fun v=>if v=u then some f else hp v) (l:=l) (t:=t) hn
   simp only [zeH]at this
   rw [this]
   rcases List.mem_cons.1 h with h|h
   ·cases h;simp
   ·exact absurd h (hn e)
theorem zjV (hs: ∀t e,hp0 t=some e→hp t=some e) {ρ:List AV} {t:Nat} {e:Ent} (h:Res ρ (hp0 t) e):Res ρ (hp t) e:=by
 cases hh:hp0 t with
 |none=>rw [hh]at h;exact h.elim
 |some e9=>rw [hs t e9 hh];rwa [hh]at h
theorem zzX {ρ:List AV} {o:Option Ent} {e f:Ent} (h:Res ρ o e) (k:Res ρ o f):e=f:=by
 cases o with
 |none=>exact h.elim
 |some o=>
  cases o with
  |gd gs x=>exact h.2.symm.trans k.2
  |box=>exact h.symm.trans k
  |row=>exact h.symm.trans k
  |frz=>exact h.symm.trans k
  |dead=>exact h.symm.trans k
  |deep=>exact h.symm.trans k
  |hol=>exact h.symm.trans k
theorem Rel.freeze (h:Rel c n sl hp a) (hs: ∀t e,hp0 t=some e→hp t=some e) (k:zeF c.ρ gs) {ts:List Nat} {l:List (Nat × Ent)} (hf:zbe hp0 gs ts=some l):
  Rel (c.frz (l.map (·.1))) n sl (zeH hp l) a:=by
 obtain⟨h1,h2⟩:=zdv k hf
 have hG: ∀u,(c.frz (l.map (·.1))).G u=if u∈l.map (·.1)then⟨[], []⟩else c.G u:=fun u=>rfl
 have huniq: ∀t e e',(t,e)∈l→(t,e')∈l→e'=e:=by
  intro t e e' he he'
  obtain⟨_,_,g,x,_,rfl,r,rl⟩:=h1 t e he
  obtain⟨_,_,g',x',_,rfl,r',rl'⟩:=h1 t e' he'
  have:=zzX r r'
  subst this
  obtain⟨rfl,rfl⟩:=rl.fun rl'
  rfl
 refine h.change (fun u=>u∈l.map (·.1)) (Cx.frz_keep c _) ⟨h.base.os,h.base.tape,h.base.output,h.base.size,h.base.pins,h.base.block⟩ (fun u hu=>⟨zhq (fun e he=>hu (List.mem_map.2 ⟨_,he,rfl⟩)),by rw [hG,if_neg hu],by simp only [Cx.frz,if_neg hu],fun g hg=>hg⟩) (fun u hu b hb=>rfl) (fun u hu=> ?_) ?_ h.usedK (fun u e hu=> ?_)
 ·obtain⟨⟨u',e⟩,he,rfl⟩:=List.mem_map.1 hu
  have hup:=zsN (hp:=hp) he (fun e' he'=>huniq _ _ _ he he')
  obtain⟨_,_,g,x,f0,rfl,r,rl⟩:=h1 u' e he
  obtain⟨q1,f,r1,r2⟩:=rl.rd (h.ents u' _ (zjV hs r))
  have hemp:((c.frz (l.map (·.1))).G u').top= []∧((c.frz (l.map (·.1))).G u').O= []:=by rw [hG,if_pos hu];simp
  rw [hup]
  refine⟨fun e' hr=> ?_,fun _=>hemp⟩
  have:e'= .frz g x:=hr.symm
  subst this
  exact⟨q1,⟨f,r1,fun b hb=>by
   refine zxq h.gw (ts:=l.map (·.1)) (us:= [u']) (by simpa using hu) ?_
   rcases r2 b hb with hb|hb
   ·exact .inr ⟨u',by simp,hb⟩
   ·exact .inl hb⟩,hemp.1,hemp.2⟩
 ·refine⟨fun u=> ?_,fun u v huv b hb=> ?_,fun u b hb=> ?_,fun u b hb=> ?_⟩
  ·rw [hG];split
   ·simp [GI.own]
   ·exact h.gw.nodup u
  ·rw [hG]at hb ⊢
   split at hb
   ·simp [GI.own]at hb
   ·split
    ·simp [GI.own]
    ·exact h.gw.disj u v huv b hb
  ·rw [hG]at hb
   split at hb
   ·simp [GI.own]at hb
   ·exact h.gw.allow u b hb
  ·rw [hG]at hb
   split at hb
   ·simp [GI.own]at hb
   ·exact h.gw.inb u b hb
 ·by_cases hm: ∃e',(u,e')∈l
  ·obtain⟨e',he'⟩:=hm
   obtain⟨_,_,g,x,f0,rfl,r,rl⟩:=h1 u e' he'
   have r':=zjV hs r
   cases hh:hp u with
   |none=>rw [hh]at r';exact r'.elim
   |some e9=>exact h.usedH u e9 hh
  ·rw [zhq (fun e' he'=>hm ⟨e',he'⟩)]at hu
   exact h.usedH u e hu
theorem zvW {ts:List Nat} (h:zt4 hp0 gs ts=true) {t:Nat} (ht:t∈ts) {ty:Nat} {g:Bool} {cs:List SV}:zlm hp0 gs t≠some (.box ty g cs):=by
 intro hl
 simp only [zt4,Bool.not_eq_true',List.any_eq_false]at h
 have:=h t ht
 rw [hl]at this;simp at this
theorem zuj {ρ:List AV} (k:zeF ρ gs) {ts:List Nat} {l:List (Nat × Ent)} (hf:zbe hp0 gs ts=some l) {t:Nat} (ht:t∈ts):(∃g x,(t,Ent.frz g x)∈l)∨(∃g x,zlm hp0 gs t=some (.frz g x))∨ ∃ty g cs,zlm hp0 gs t=some (.box ty g cs):=by
 induction ts generalizing l with
 |nil=>simp at ht
 |cons u ts ih=>
  unfold zbe at hf
  split at hf
  ·rename_i ety sz g x d l' hl hl'
   split at hf
   ·simp at hf;subst hf
    rcases List.mem_cons.1 ht with rfl|ht
    ·exact .inl ⟨g,x,by simp⟩
    ·rcases ih hl' ht with⟨g',x',hh⟩|hh
     ·exact .inl ⟨g',x',by simp [hh]⟩
     ·exact .inr hh
   ·cases hf
  ·rename_i ety sz dl g ep x l' hl hl'
   split at hf
   ·simp at hf;subst hf
    rcases List.mem_cons.1 ht with rfl|ht
    ·exact .inl ⟨g,x,by simp⟩
    ·rcases ih hl' ht with⟨g',x',hh⟩|hh
     ·exact .inl ⟨g',x',by simp [hh]⟩
     ·exact .inr hh
   ·cases hf
  ·rename_i g x l' hl hl'
   simp at hf;subst hf
   rcases List.mem_cons.1 ht with rfl|ht
   ·exact .inr (.inl ⟨g,x,hl⟩)
   ·exact ih hl' ht
  ·rename_i ty g cs l' hl hl'
   simp at hf;subst hf
   rcases List.mem_cons.1 ht with rfl|ht
   ·exact .inr (.inr ⟨ty,g,cs,hl⟩)
   ·exact ih hl' ht
  ·cases hf
theorem zkn (h:Rel c n sl hp a) (eh:EH c hp0) (k:zeF c.ρ gs) {ts:List Nat} {l:List (Nat × Ent)} (hf:zbe hp0 gs ts=some l) (hb:zt4 hp0 gs ts=true) {b:Nat} (hs:c.see ts b):(c.frz (l.map (·.1))).ok b:=by
 rcases hs with hs|⟨t,ht,hbt⟩
 ·exact Cx.frz_ok hs
 ·rcases zuj k hf ht with⟨g,x,hh⟩|⟨g,x,hh⟩|⟨ty,g,cs,hh⟩
  ·exact zxq h.gw (us:= [t]) (by simpa using⟨_,hh⟩) (.inr ⟨t,by simp,hbt⟩)
  ·obtain⟨_,_,htop,_⟩:=eh t _ (zaV hh k)
   rw [htop]at hbt;simp at hbt
  ·exact absurd hh (zvW hb ht)
theorem zpD (h:Rel c n sl hp a) (hs: ∀t e,hp0 t=some e→hp t=some e) (k:zeF c.ρ gs) {t:TypeId} {s:SV} {v:Value} (hr:SR c [s] [v]) {x:E} {fz:List (Nat × Ent)} {d:Bool} {ck:List Cn} (ht:zuQ P hp0 gs t s=some (x,fz,d,ck)) (hc: ∀q∈ck,q.den c.ρ):
  ∃f,Rd c.w [v] [x.den c.ρ] f∧(d=true→f= [])∧(∃ts,zbe hp0 gs ts=some fz∧ ∀b∈f,(c.frz (fz.map (·.1))).ok b)∧
   (if zaY P t then∃cs,x.den c.ρ= .agg cs∧cs.length=P.cellsOf t else(∀cs,x.den c.ρ≠ .agg cs)∧ ∀cs,x.den c.ρ≠ .tup cs):=by
 have eh:EH c hp0:=fun t e hr=>h.ents t e (zjV hs hr)
 unfold zuQ at ht
 split at ht
 ·cases ht
 ·rename_i y hy
  obtain⟨f,q1,q2⟩:=zhe eh k zaj hy hr zaj (Nat.le_refl _)
  split at ht
  ·simp at ht;obtain⟨rfl,rfl,rfl,rfl⟩:=ht
   obtain⟨c1,c2,c3,c4⟩:=hc1 hc
   have hf:f= []:=by
    cases hg:zaY P t with
    |true=>
     obtain⟨cs,hcs⟩:=c3 hg
     obtain⟨as,rfl,_,r⟩:=zjx q1 hcs
     exact zfT r (by rw [hcs]at c2;exact c2)
    |false=>exact zfT q1 (by simpa using c4 hg)
   subst hf
   refine⟨[],q1,fun _=>rfl,⟨[],rfl,by simp⟩, ?_⟩
   split
   ·rename_i hg
    obtain⟨cs,hcs⟩:=c3 hg
    exact⟨cs,hcs,by rw [hcs]at c1;exact c1⟩
   ·rename_i hg
    have:=c4 (by simpa using hg)
    exact⟨fun cs hcs=>by rw [hcs]at this;simp [AV.scalar]at this,fun cs hcs=>by rw [hcs]at this;simp [AV.scalar]at this⟩
  ·split at ht
   ·rename_i hnb
    split at ht
    ·cases ht
    ·rename_i l hl
     simp only [Option.some.injEq,Prod.mk.injEq]at ht;obtain⟨rfl,rfl,rfl,rfl⟩:=ht
     refine⟨f,q1,by simp,⟨_,hl,fun b hb=>zkn h eh k hl hnb (q2 b hb)⟩, ?_⟩
     have hq:=hc1 hc
     unfold zAR at hq
     split
     ·rename_i hg
      rw [if_pos hg]at hq
      obtain⟨cs,hcs,hl⟩:=hq
      exact⟨cs,hcs,hl⟩
     ·rename_i hg
      rw [if_neg hg]at hq
      exact hq
   ·cases ht
end
end Go.Proofs.YtecngjbpbnfegaaGreatDoor
end
section
namespace Go.Proofs.YtecngjbpbnfegaaGreatDoor
open Go.RowKit
section
variable {P:Program} {c:Cx} {n nx:Nat} {sl sl0:Nat→SV} {hp hp0:Nat→Option Ent} {a:Act} {o:Oper} {gs:Gd} {e:Eff} {sg:SgT} {nv:Nat}
theorem zxC (w:World) (t ty el:TypeId) (i:TypeInfo) (z:Value) (ht:P.underlying t=some (.slice el)) (hi:P.info? el=some i) (hz:i.zero=some z) (hzs:z.cells.size=i.size) (hsz:0<i.size)
  (Own:Nat→Prop) (v:Value) (k:Nat) (old:List Value) (ho:old.length=k*i.size)
  (hrow:(k=0∧ ∃q,v= .slice q 0 0)∨ ∃g cap C,v= .slice (some ⟨g,0,none⟩) k cap∧k≤cap∧cap≤maxLen∧w.heap[g]?=some (.cells C el (0,0))∧C.size=cap*i.size∧old=C.toList.take (k*i.size)∧Own g)
  (q:Option Addr) (m r:Nat) (news:List Value) (hs:Src w i.size q m news) (h63:k+m≤maxLen) (hb:(k+m)*i.bytes≤140737488355328):
  ∃v' w',(Builtin.append_ #[t,t] ty #[v, .slice q m r]).run P w= .ok v' w'∧
   ((v'=v∧w'=w∧m=0)∨ ∃g cap C,v'= .slice (some ⟨g,0,none⟩) (k+m) cap∧k+m≤cap∧cap≤maxLen∧w'.heap[g]?=some (.cells C el (0,0))∧C.size=cap*i.size∧C.toList.take ((k+m)*i.size)=old++news∧
    w.grownBy w' (some g)∧((g=w.heap.size∧g<w'.heap.size)∨Own g)):=by
 have hnl:news.length=m*i.size:=by
  rcases hs with⟨rfl,rfl,rfl⟩|⟨ad,rfl,h1,_⟩
  ·simp
  ·exact h1
 have hlen:(old++news).length=(k+m)*i.size:=by rw [List.length_append,ho,hnl,Nat.add_mul]
 have grown: ∀(cp:Nat),cp<k+m→ ∀(X:Array Value),X.toList=old++news→ ∃C,C=X++Builtin.zeroCells z.cells (grownCap w (k+m) cp el-(k+m))∧
   k+m≤grownCap w (k+m) cp el∧grownCap w (k+m) cp el≤maxLen∧C.size=grownCap w (k+m) cp el*i.size∧C.toList.take ((k+m)*i.size)=old++news:=by
  intro cp hcp X hX
  have hge:=grownCap_ge w (k+m) cp el
  have hcm:=grownCap_le_maxLen w (k+m) cp el h63
  refine⟨_,rfl,hge,hcm, ?_, ?_⟩
  ·have hXs:X.size=(k+m)*i.size:=by rw [←Array.length_toList,hX,hlen]
   rw [Array.size_append,hXs,size_zeroCells,hzs,←Nat.add_mul]
   congr 1;omega
  ·rw [Array.toList_append,hX,←hlen]
   exact List.take_left
 have newb: ∀C:Array Value,w.grownBy (w.drew.alloc (.cells C el)) (some w.heap.size)∧w.heap.size<(w.drew.alloc (.cells C el)).heap.size∧(w.drew.alloc (.cells C el)).heap[w.heap.size]?=some (.cells C el (0,0)):=
  fun C=>⟨⟨rfl,rfl,rfl,by simp,fun j hj _=>Below.heap_alloc w.drew _ _ hj⟩,by simp,heap_alloc_new w.drew _⟩
 rcases hrow with⟨rfl,p,rfl⟩|⟨g,cap,C,rfl,hnc,hcm,hg,hcs,hold,hOwn⟩
 ·have hold:old= []:=List.eq_nil_of_length_eq_zero (by simpa using ho)
  subst hold
  by_cases hm:m=0
  ·subst hm
   have hn:news= []:=List.eq_nil_of_length_eq_zero (by simpa using hnl)
   subst hn
   refine⟨_,w, ?_, .inl ⟨rfl,rfl,rfl⟩⟩
   rcases hs with⟨rfl,_,_⟩|⟨ad,rfl,_⟩<;>cases p<;>
    simp [Builtin.append_,run_underlying ht,sizeOf,typeInfo,hi,Builtin.lenOf,Builtin.firstCells,loadCells,loadCellsFrom,storeCells]
  ·rcases hs with⟨_,rfl,_⟩|⟨ad,rfl,h1,h2,h3⟩
   ·exact absurd rfl hm
   ·obtain⟨C',hC',g1,g2,g3,g4⟩:=grown 0 (by omega) news.toArray (by simp)
    cases p with
    |none=>
     have hr:=run_append_nil (P:=P) w t ty el i z ht hi hz ad m r news h1 h2 (by omega) (by simp only [maxLen]at h63;omega) (by have hb:=hb;simp only [Nat.zero_add]at hb;omega)
     simp only [Nat.zero_add]at g1 g2 g3 g4 hC' ⊢
     obtain⟨n1,n2,n3⟩:=newb C'
     refine⟨_,_,hr, .inr ⟨_,_,C',rfl,g1,g2, ?_,g3,g4, ?_, .inl ⟨rfl, ?_⟩⟩⟩<;>rw [←hC']<;>first|exact n3|exact n1|exact n2
    |some p=>
     have hr:=run_append_grow (P:=P) w t ty el i z ht hi hz p 0 0 [] (by simp) (by simp) ad m r news h1 h2 (by omega) (by simp only [maxLen]at h63;omega) (growslice_fits (by omega) hb)
     rw [show(([]:List Value).toArray++news.toArray)=news.toArray by simp]at hr
     simp only [Nat.zero_add]at g1 g2 g3 g4 hC' hr ⊢
     obtain⟨n1,n2,n3⟩:=newb C'
     refine⟨_,_,hr, .inr ⟨_,_,C',rfl,g1,g2, ?_,g3,g4, ?_, .inl ⟨rfl, ?_⟩⟩⟩<;>rw [←hC']<;>first|exact n3|exact n1|exact n2
 ·rcases hs with⟨rfl,rfl,rfl⟩|⟨ad,rfl,h1,h2,h3⟩
  ·refine⟨_,w, ?_, .inl ⟨rfl,rfl,rfl⟩⟩
   simp [Builtin.append_,run_underlying ht,sizeOf,typeInfo,hi,Builtin.lenOf,Builtin.firstCells,hnc,storeCells]
  ·by_cases hroom:k+m≤cap
   ·have hfit:k*i.size+news.length≤C.size:=by rw [h1,hcs,←Nat.add_mul];exact Nat.mul_le_mul_right _ hroom
    have hr:=run_append_room (P:=P) w t ty el i ht hi g k cap C hg ad m r news h1 h2 h3 hroom hfit
    refine⟨_,_,hr, .inr ⟨g,cap,_,rfl,hroom,hcm,setRow_heap w g C _ el _ hg, ?_, ?_,⟨rfl,rfl,rfl,by simp,fun j _ hj=>setRow_other w g j _ (fun hh=>hj (by rw [hh]))⟩, .inr hOwn⟩⟩
    ·simp only [List.size_toArray,List.length_append,List.length_take,List.length_drop,Array.length_toList]
     omega
    ·rw [←hold,←hlen]
     exact List.take_left
   ·have holds: ∀j u,old[j]?=some u→w.cell? ((⟨g,0,none⟩:Addr).add j)=some u:=fun j u hu=>by
     rw [Addr.add_lit,Nat.zero_add,zax hg]
     rw [hold,List.getElem?_take]at hu
     split at hu
     ·simpa using hu
     ·cases hu
    have hr:=run_append_grow (P:=P) w t ty el i z ht hi hz ⟨g,0,none⟩ k cap old ho holds ad m r news h1 h2 (by omega) (by simp only [maxLen]at h63;omega) (growslice_fits (by omega) hb)
    obtain⟨C',hC',g1,g2,g3,g4⟩:=grown cap (by omega) (old.toArray++news.toArray) (by simp)
    obtain⟨n1,n2,n3⟩:=newb C'
    refine⟨_,_,hr, .inr ⟨_,_,C',rfl,g1,g2, ?_,g3,g4, ?_, .inl ⟨rfl, ?_⟩⟩⟩<;>rw [←hC']<;>first|exact n3|exact n1|exact n2
def Cx.regrow (c:Cx) (t g':Nat) (w':World) (v:Value) (top O:List Nat):Cx:=
 {c with w:=w',G:=fun u=>if u=t then⟨top,O⟩else c.G u,K:=fun u g=>c.K u g∨(u=t∧g=g'),H:=fun u g=>if u=t∧g=g' then v else c.H u g,U:=fun u=>c.U u∨u=t,E:=fun u=>if u=t then c.E u+1 else c.E u}
theorem Rel.regrow (h:Rel c n sl hp a) {t g:Nat} (hpin:c.A.pin t=none∨g≠0) (hnew: ¬c.K t g) {w':World} {row:Option Nat} (hg:c.w.grownBy w' row)
  (hg0: ∀g0,row=some g0→g0∈(c.G t).top∨(g0=c.w.heap.size∧g0<w'.heap.size)) {top O:List Nat} (htop:top= []∨ ∃g0,row=some g0∧top= [g0]) (hO:O= []∨O=(c.G t).O) {v:Value} (e1:Ent) (hne: ∀hs f,e1≠ .gd hs f) (k:zeF c.ρ gs)
  (he:zm4 c (c.regrow t g w' v top O)→zkI (c.regrow t g w' v top O) t e1):Rel (c.regrow t g w' v top O) n sl (zeH hp [(t,zeG gs e1)]) a:=by
 have hG: ∀u,(c.regrow t g w' v top O).G u=if u=t then⟨top,O⟩else c.G u:=fun u=>rfl
 have hM: ∀b,(c.regrow t g w' v top O).M b→c.M b∨row=some b:=by
  rintro b ⟨u,hu⟩
  rw [hG]at hu
  split at hu
  ·rcases htop with rfl|⟨g0,hr,rfl⟩
   ·simp at hu
   ·simp at hu;subst hu;exact .inr hr
  ·exact .inl ⟨u,hu⟩
 have hg0M: ∀b,b<c.w.heap.size→c.ok b→row≠some b:=by
  intro b hb hok hr
  rcases hg0 b hr with hh|⟨hh,_⟩
  ·exact hok.1 ⟨t,hh⟩
  ·omega
 have hkeep:zm4 c (c.regrow t g w' v top O):=by
  refine⟨rfl,fun b hb hok=>⟨fun hm=>(hM b hm).elim hok.1 (hg0M b hb hok),hok.2⟩,fun b hb hok=>hg.block b hb (fun hh=>hg0M b hb hok hh.symm),fun u g1 hu=>⟨.inl hu, ?_⟩,fun u g1 hu=> ?_⟩
  ·simp only [Cx.regrow]
   rw [if_neg];rintro⟨rfl,rfl⟩;exact hnew hu
  ·by_cases hut:u=t
   ·have e1:(c.regrow t g w' v top O).E u=c.E u+1:=by simp only [Cx.regrow,if_pos hut]
    exact⟨by omega,fun h=>by omega⟩
   ·have e1:(c.regrow t g w' v top O).E u=c.E u:=by simp only [Cx.regrow,if_neg hut]
    have e2:(c.regrow t g w' v top O).G u=c.G u:=by simp only [Cx.regrow,if_neg hut]
    rw [e1]
    refine⟨Nat.le_refl _,fun _=>⟨e2,fun b hb hb2=>hg.block b hb2 fun hh=> ?_⟩⟩
    rcases hg0 b hh.symm with h1|⟨h1,_⟩
    ·exact h.gw.disj u t hut b (by simp [GI.own,hb]) (by simp [GI.own,h1])
    ·omega
 have hup: ∀u,zeH hp [(t,zeG gs e1)] u=if u=t then some (zeG gs e1)else hp u:=fun u=>rfl
 have hne0: ∀u,u≠t→ ∀b∈(c.G u).own,row≠some b:=by
  intro u hu b hb hr
  rcases hg0 b hr with hh|⟨hh,_⟩
  ·exact h.gw.disj u t hu b hb (by simp [GI.own,hh])
  ·have:=h.gw.inb u b hb;omega
 have hsub: ∀b∈(⟨top,O⟩:GI).own,row=some b∨b∈(c.G t).own:=by
  intro b hb
  simp only [GI.own,List.mem_append]at hb ⊢
  rcases hb with hb|hb
  ·rcases htop with rfl|⟨g0,hr,rfl⟩
   ·simp at hb
   ·simp at hb;subst hb;exact .inl hr
  ·rcases hO with rfl|rfl
   ·simp at hb
   ·exact .inr (.inr hb)
 refine h.change (fun u=>u=t) hkeep ⟨hg.os.trans h.base.os,hg.tape.trans h.base.tape,hg.output.trans h.base.output,Nat.le_trans h.base.size hg.size,fun u v' hp=>⟨.inl (h.base.pins u v' hp).1,fun hk=> ?_⟩,fun b hb hmu=> ?_⟩
  (fun u hu=>⟨by rw [hup,if_neg hu],by rw [hG,if_neg hu],by simp [Cx.regrow,hu],fun g1 hh=>hh.resolve_right (fun hh=>hu hh.1)⟩) (fun u hu b hb=>hg.block b (h.gw.inb u b (by simp [GI.own,hb])) (fun hh=>hne0 u hu b (by simp [GI.own,hb]) hh.symm)) (fun u hu=> ?_) ?_ (fun u g1 hh=> ?_) (fun u f hf=> ?_)
 ·have hut: ¬(u=t∧0=g):=by
   rintro⟨rfl,rfl⟩
   rcases hpin with hh|hh
   ·have hp':c.A.pin u=some v':=hp
    rw [hh]at hp';cases hp'
   ·exact hh rfl
  have hk':=hk.resolve_right hut
  simp only [Cx.regrow]
  rw [if_neg hut];exact(h.base.pins u v' hp).2 hk'
 ·refine(hg.block b (Nat.lt_of_lt_of_le hb h.base.size) (fun hh=> ?_)).trans (h.base.block b hb hmu)
  rcases hg0 b hh.symm with hh|⟨hh,_⟩
  ·rcases h.gw.allow t b (by simp [GI.own,hh])with h1|h1
   ·exact absurd h1 (Nat.not_le.2 hb)
   ·exact hmu h1
  ·have:=h.base.size;have h9:b<c.w0.heap.size:=hb;omega
 ·subst hu
  rw [hup,if_pos rfl]
  exact⟨fun e' hr=>by rw [(ziG k hne).1 hr];exact he hkeep,fun hn=>absurd ((ziG k hne).2 rfl) (hn e1)⟩
 ·have hnd:(⟨top,O⟩:GI).own.Nodup:=by
   have h0:=h.gw.nodup t
   simp only [GI.own]at h0 ⊢
   rw [List.nodup_append]at h0 ⊢
   refine⟨by rcases htop with rfl|⟨g0,hr,rfl⟩<;>simp,by rcases hO with rfl|rfl;simp;exact h0.2.1,fun p hp q hq=> ?_⟩
   rcases htop with rfl|⟨g0,hr,rfl⟩
   ·simp at hp
   ·simp at hp;subst hp
    rcases hO with rfl|rfl
    ·simp at hq
    ·rcases hg0 p hr with hh|⟨hh,_⟩
     ·exact h0.2.2 p hh q hq
     ·have:=h.gw.inb t q (by simp [GI.own,hq]);omega
  refine⟨fun u=> ?_,fun u u' huu b hb=> ?_,fun u b hb=> ?_,fun u b hb=> ?_⟩
  ·rw [hG];split
   ·exact hnd
   ·exact h.gw.nodup u
  ·rw [hG]at hb ⊢
   by_cases h1:u=t
   ·rw [if_pos h1]at hb
    rw [if_neg (fun hh=>huu (h1.trans hh.symm))]
    rcases hsub b hb with hr|hb
    ·exact fun hh=>hne0 u' (fun h2=>huu (h1.trans h2.symm)) b hh hr
    ·exact h.gw.disj t u' (fun hh=>huu (h1.trans hh)) b hb
   ·rw [if_neg h1]at hb
    by_cases h2:u'=t
    ·rw [if_pos h2]
     intro hb'
     rcases hsub b hb' with hr|hb'
     ·exact hne0 u h1 b hb hr
     ·exact h.gw.disj u t h1 b hb hb'
    ·rw [if_neg h2];exact h.gw.disj u u' huu b hb
  ·rw [hG]at hb
   split at hb
   ·rcases hsub b hb with hr|hb
    ·rcases hg0 b hr with hh|⟨hh,_⟩
     ·exact h.gw.allow t b (by simp [GI.own,hh])
     ·exact .inl (by rw [hh];exact h.base.size)
    ·exact h.gw.allow t b hb
   ·exact h.gw.allow u b hb
  ·rw [hG]at hb
   show b<w'.heap.size
   split at hb
   ·rcases hsub b hb with hr|hb
    ·rcases hg0 b hr with hh|⟨_,hh⟩
     ·exact Nat.lt_of_lt_of_le (h.gw.inb t b (by simp [GI.own,hh])) hg.size
     ·exact hh
    ·exact Nat.lt_of_lt_of_le (h.gw.inb t b hb) hg.size
   ·exact Nat.lt_of_lt_of_le (h.gw.inb u b hb) hg.size
 ·rcases hh with hh|⟨rfl,_⟩
  ·exact .inl (h.usedK u g1 hh)
  ·exact .inr rfl
 ·rw [hup]at hf
  split at hf
  ·rename_i hu;exact .inr hu
  ·exact .inl (h.usedH u f hf)
theorem zB9 {x:AV} {m:Int} (h:x.len= .int .i64 m): ∃xs,x= .sl xs∧m=xs.length:=by
 cases x<;>simp [AV.len]at h
 exact⟨_,rfl,h.symm⟩
theorem zy0 {w:World} {v:Value} {ys:List AV} {f:List Nat} {sz:Nat} (h:Rd w [v] [.sl ys] f) (hs: ∀y∈ys,y.cells.length=sz):
  ∃q r news N,v= .slice q ys.length r∧Src w sz q ys.length news∧Rd w news (zaQ ys) N∧(∀b∈N,b∈f)∧news.length=ys.length*sz∧(∀u∈news,u.oneCell'=true):=by
 rcases h.kind with hh|hh|hh|hh|hh|hh|hh|hh|hh|hh
 ·obtain⟨_,_,_,hh,_⟩:=hh;cases hh
 ·obtain⟨_,_,hh,_⟩:=hh;cases hh
 ·obtain⟨_,_,hh,_⟩:=hh;cases hh
 ·obtain⟨p,r,rfl,hh,rfl⟩:=hh
  cases hh
  refine⟨p,r, [], [],rfl, ?_, .nil,by simp,by simp,by simp⟩
  cases p with
  |none=>exact .inl ⟨rfl,rfl,rfl⟩
  |some p=>exact .inr ⟨p,rfl,by simp,by simp,by simp⟩
 ·obtain⟨b,off,m,r,ys',cs,C,t,fz,sz',f1,rfl,hh,rfl,hb,h1,h2,h3,h4,h5,h6,h6',h7⟩:=hh
  cases hh
  subst h3
  have hss:sz'=sz:=by
   cases ys with
   |nil=>simp at h1
   |cons y ys=>rw [←h4 y (by simp),hs y (by simp)]
  subst hss
  have hl:=h7.len
  rw [ziD ys h4]at hl
  exact⟨_,r,cs,f1,rfl, .inr ⟨_,rfl,hl,fun j u hu=>by rw [Addr.add_lit,zax hb];exact h6 j u hu,h6'⟩,h7,fun q hq=>by simp [hq],hl,h6'⟩
 ·obtain⟨_,_,_,hh,_⟩:=hh;cases hh
 ·obtain⟨_,_,_,hh,_⟩:=hh;cases hh
 ·obtain⟨_,_,_,_,_,_,_,hh,_⟩:=hh;cases hh
 ·obtain⟨_,_,_,_,hh,_⟩:=hh;cases hh
 ·obtain⟨_,hh,_⟩:=hh;cases hh
end
end Go.Proofs.YtecngjbpbnfegaaGreatDoor
end
section
namespace Go.Proofs.YtecngjbpbnfegaaGreatDoor
open Go.RowKit
section
variable {P:Program} {c:Cx} {n nx:Nat} {sl sl0:Nat→SV} {hp hp0:Nat→Option Ent} {a:Act} {o:Oper} {gs:Gd} {e:Eff} {sg:SgT} {nv:Nat}
theorem zkt (hp:Nat→Option Ent) (l m:List (Nat × Ent)):zeH hp (l++m)=zeH (zeH hp l) m:=by simp [zeH,List.foldl_append]
theorem ztl (h:Rel c n sl hp a) (hs: ∀t e,hp0 t=some e→hp t=some e) (k:zeF c.ρ gs) {el:TypeId} {s:SV} {v:Value} (hr:SR c [s] [v]) {y:E} (hy:zfb hp0 gs zaj s=some y) {fz:List (Nat × Ent)} {d:Bool} {ck:Cn} (ht:zpm P hp0 gs el s y=some (fz,d,ck)) (hc:ck.den c.ρ):
  ∃ts ys q r news N,zbe hp0 gs ts=some fz∧y.den c.ρ= .sl ys∧(∀z∈ys,z.cells.length=P.cellsOf el)∧v= .slice q ys.length r∧Src c.w (P.cellsOf el) q ys.length news∧Rd c.w news (zaQ ys) N∧(∀b∈N,(c.frz (fz.map (·.1))).ok b)∧(d=true→N= [])∧news.length=ys.length*P.cellsOf el∧ ∀u∈news,u.oneCell'=true:=by
 have eh:EH c hp0:=fun t e hr=>h.ents t e (zjV hs hr)
 obtain⟨f,q1,q2⟩:=zhe eh k zaj hy hr zaj (Nat.le_refl _)
 unfold zpm at ht
 split at ht
 ·simp only [Option.some.injEq,Prod.mk.injEq]at ht;obtain⟨rfl,rfl,rfl⟩:=ht
  obtain⟨ys,hys,hcl⟩:=hc
  rw [hys]at q1
  obtain⟨q,r,news,N,hv,g1,g2,g3,g4,g5⟩:=zy0 q1 (fun z hz=>(hcl z hz).1)
  have hN:N= []:=zfT g2 (fun x hx=>by
   obtain⟨z,hz,hx⟩:=List.mem_flatMap.1 hx
   exact(hcl z hz).2 x hx)
  exact⟨[],ys,q,r,news,N,rfl,hys,fun z hz=>(hcl z hz).1,hv,g1,g2,by simp [hN],fun _=>hN,g4,g5⟩
 ·split at ht
  ·rename_i hnb
   obtain⟨l,hl,ht⟩:=Option.map_eq_some_iff.1 ht
   simp only [Prod.mk.injEq]at ht;obtain⟨rfl,rfl,rfl⟩:=ht
   obtain⟨ys,hys,hcl⟩:=hc
   rw [hys]at q1
   obtain⟨q,r,news,N,hv,g1,g2,g3,g4,g5⟩:=zy0 q1 hcl
   exact⟨_,ys,q,r,news,N,hl,hys,hcl,hv,g1,g2,fun b hb=>zkn h eh k hl hnb (q2 b (g3 b hb)),by simp,g4,g5⟩
  ·cases ht
theorem zec {el:TypeId} (h:ziq P el=true): ∃i z,P.info? el=some i∧i.zero=some z∧z.cells.size=i.size∧0<i.size∧P.cellsOf el=i.size∧P.bytesOf el=i.bytes:=by
 unfold ziq at h
 cases hi:P.info? el with
 |none=>simp [hi]at h
 |some i=>
  cases hz:i.zero with
  |none=>simp [hi,hz]at h
  |some z=>
   simp only [hi,hz,Bool.and_eq_true,beq_iff_eq,bne_iff_ne]at h
   exact⟨i,z,rfl,hz,h.1,by omega,by simp [Program.cellsOf,hi],by simp [Program.bytesOf,hi]⟩
theorem zj3 (xs ys:List AV):zaQ (xs++ys)=zaQ xs++zaQ ys:=by simp [zaQ]
theorem ziO (h:Pre P c n nx sl hp a sl0 hp0 o gs) {x y:Operand} {tx:TypeId} {cl:Call} (ho:o.op= .call cl) (hcl:cl.callee= .builtin .append) (ha1:cl.args.toList= [x,y]) (ha2:cl.argTypes.toList= [tx,tx])
  {el:TypeId} (hel:P.underlying tx=some (.slice el)) (hz:ziq P el=true) {s2:SV} {ye:E} (hs2:zan sl0 gs y=some s2) (hy:zfb hp0 gs zaj s2=some ye) {fz:List (Nat × Ent)} {d:Bool} {ck:Cn} (htk:zpm P hp0 gs el s2 ye=some (fz,d,ck)) (hck:ck.den c.ρ)
  {t g:Nat} (hpin:c.A.pin t=none∨g≠0) {c0:E} {d':Bool} (hroom:Cn.den c.ρ (.room c0 ye (P.bytesOf el))) (hnt: ∀f,(t,f)∉fz) (hnew: ¬c.K t g)
  {top N0:List Nat} {v:Value} (hv:a.eval x=v) (hrow:zdF c.w el (P.cellsOf el) v (c0.den c.ρ) top N0) (htop:(c.G t).top=top) (hN0: ∀b∈N0,c.ok b) (hd0:d'=true→Uni c.w N0∧(c.G t).O=N0) (hgen: ∀g',c.K t g'→g'≤g) (hU: ∀u,u=t→c.U u∨(nx≤u∧u<nx+zao)) {ckl:List Cn}:
  zbJ P o c n nx sl hp gs a {chk:=ckl,val:= .own t g,ent:=fz++ [(t,zeG gs (.row el (P.cellsOf el) g (.app c0 ye) (d&&d')))]}:=by
 have hargs:cl.args= #[x,y]:=by apply Array.ext';simp [ha1]
 have htys:cl.argTypes= #[tx,tx]:=by apply Array.ext';simp [ha2]
 have hm2:y∈o.op.operands:=by simp [ho,Op.operands,Call.operands,hcl,hargs]
 obtain⟨i,z,hi,hiz,hzs,hsz,hco,hby⟩:=zec hz
 obtain⟨ts,ys,q,r,news,N,hfz,hys,hyc,hv2,hsrc,hnews,hNok,hdN,hnl,hn1⟩:=ztl h.rel h.hp h.gs (h.opd hs2 hm2) hy htk hck
 have hrel1:=h.rel.freeze h.hp h.gs hfz
 obtain⟨xs,hxs,hxc,_,hcase⟩:=hrow
 obtain⟨mm,kk,hr1,hr2,hr3,hr4⟩:=hroom
 rw [hxs]at hr1;rw [hys]at hr2
 simp only [AV.len,AV.int.injEq,true_and]at hr1 hr2
 have hb1:(xs.length+ys.length)*i.bytes≤140737488355328:=by
  rw [←hr1,←hr2,hby]at hr3
  have h9:(((xs.length+ys.length)*i.bytes:Nat):Int)≤140737488355328:=by rw [Int.natCast_mul,Int.natCast_add];exact hr3
  omega
 have hb2:xs.length+ys.length≤140737488355328:=by rw [←hr1,←hr2]at hr4;omega
 rw [hco]at hsrc hnl hxc hyc hcase
 obtain⟨old,hold,hrowA,hrd,hone⟩: ∃old,old.length=xs.length*i.size∧((xs.length=0∧ ∃q,v= .slice q 0 0)∨ ∃g cap C,v= .slice (some ⟨g,0,none⟩) xs.length cap∧xs.length≤cap∧cap≤maxLen∧c.w.heap[g]?=some (.cells C el (0,0))∧C.size=cap*i.size∧old=C.toList.take (xs.length*i.size)∧g∈(c.G t).top)∧Rd c.w old (zaQ xs) N0∧ ∀u∈old,u.oneCell'=true:=by
  rcases hcase with⟨rfl,⟨p,rfl⟩,rfl,rfl⟩|⟨g9,cap,C,rfl,h6,h7,h8,h9,rfl,h10,h11⟩
  ·exact⟨[],by simp, .inl ⟨rfl,p,rfl⟩, .nil,by simp⟩
  ·refine⟨_, ?_, .inr ⟨g9,cap,C,rfl,h6,h7,h8,h9,rfl,by rw [htop];simp⟩,h11,h10⟩
   have e9:C.toList.length=cap*i.size:=by rw [←h9];simp
   rw [List.length_take,e9]
   exact Nat.min_eq_left (Nat.mul_le_mul_right _ h6)
 obtain⟨v',w',hrun,hres⟩:=zxC (P:=P) c.w tx o.type el i z hel hi hiz hzs hsz (fun g9=>g9∈(c.G t).top) v xs.length old hold hrowA q ys.length r news hsrc (by simp only [maxLen];omega) hb1
 have hrun':(execOp a.eval o).run P c.w= .ok (.value v') w':=by
  simp [execOp,ho,resolve,hcl,hargs,htys,invoke,builtin,hv,hv2,hrun]
 intro next Q hk
 unfold Oper.wp
 rw [hrun',Oper.upon_value]
 have hc1w:(c.frz (fz.map (·.1))).w=c.w:=rfl
 have hGt:(c.frz (fz.map (·.1))).G t=c.G t:=by
  simp only [Cx.frz];rw [if_neg];rintro hh
  obtain⟨⟨u,f⟩,hf,rfl⟩:=List.mem_map.1 hh
  exact hnt f hf
 obtain⟨row,top',hgrow,hg0,htop',hown,hsl⟩: ∃row top',c.w.grownBy w' row∧(∀g0,row=some g0→g0∈(c.G t).top∨(g0=c.w.heap.size∧g0<w'.heap.size))∧(top'= []∨ ∃g0,row=some g0∧top'= [g0])∧
   (zm4 (c.frz (fz.map (·.1))) ((c.frz (fz.map (·.1))).regrow t g w' v' top' (if(d&&d')=true then(c.G t).O else []))→ ∃N',zdF w' el (P.cellsOf el) v' (.sl (xs++ys)) top' N'∧(∀b∈N',b∈N0∨b∈N)∧((d&&d')=true→N'=N0))∧ ∃p m r,v'= .slice p m r:=by
  rcases hres with⟨rfl,rfl,hm0⟩|⟨g9,cap,C,rfl,h1,h2,h3,h4,h5,h6,h7⟩
  ·have hy0:ys= []:=List.eq_nil_of_length_eq_zero hm0
   subst hy0
   refine⟨if top= []then none else top.head?,top,⟨rfl,rfl,rfl,Nat.le_refl _,fun _ _ _=>rfl⟩,fun g0 hg0=> .inl ?_, ?_,fun _=>⟨N0, ?_,fun b hb=> .inl hb,fun _=>rfl⟩, ?_⟩
   ·rw [htop];split at hg0
    ·cases hg0
    ·exact List.mem_of_mem_head? hg0
   ·rcases hcase with⟨_,_,rfl,_⟩|⟨g9,_,_,_,_,_,_,_,rfl,_⟩
    ·exact .inl rfl
    ·exact .inr ⟨g9,by simp,rfl⟩
   ·rw [hco];exact⟨xs,by simp,hxc,hsz,hcase⟩
   ·rcases hrowA with⟨_,p,rfl⟩|⟨g9,cap,C,rfl,_⟩
    ·exact⟨_,_,_,rfl⟩
    ·exact⟨_,_,_,rfl⟩
  ·refine⟨some g9, [g9],h6,fun g0 hg0=> ?_, .inr ⟨g9,rfl,rfl⟩,fun hkp=>⟨N0++N,⟨xs++ys,rfl,fun z hz=> ?_,by rw [hco];exact hsz, .inr ⟨g9,cap,C,by simp,by simpa using h1,h2,h3,by rw [hco];exact h4,rfl, ?_, ?_⟩⟩,fun b hb=>List.mem_append.1 hb,fun hdd=> ?_⟩,_,_,_,rfl⟩
   ·cases hg0
    exact h7.symm
   ·rcases List.mem_append.1 hz with hz|hz
    ·rw [hco];exact hxc z hz
    ·rw [hco];exact hyc z hz
   ·rw [hco];simp only [List.length_append]
    rw [h5];intro u hu
    rcases List.mem_append.1 hu with hu|hu
    ·exact hone u hu
    ·exact hn1 u hu
   ·rw [hco];simp only [List.length_append]
    rw [h5,zj3]
    refine Rd.app (hrd.frame fun b hb=> ?_) (hnews.frame fun b hb=> ?_)
    ·have hb1:=hrd.inb b hb
     exact hkp.mem b hb1 (Cx.frz_ok (hN0 b hb))
    ·have hb1:=hnews.inb b hb
     exact hkp.mem b hb1 (hNok b hb)
   ·simp only [Bool.and_eq_true]at hdd
    rw [hdN hdd.1];simp
 obtain⟨p9,m9,r9,hv9⟩:=hsl
 have hfin:=hrel1.regrow (gs:=gs) (t:=t) (g:=g) (w':=w') (row:=row) (top:=top') (O:=if(d&&d')=true then(c.G t).O else []) (v:=v') hpin hnew hgrow (by rw [hGt];exact hg0) htop' (by split;exact .inr (by rw [hGt]);exact .inl rfl)
  (.row el (P.cellsOf el) g (.app c0 ye) (d&&d')) (by intros;simp) h.gs (fun hkp=>by
   obtain⟨N',o1,o2,o3⟩:=hown hkp
   have hok: ∀b∈N',((c.frz (fz.map (·.1))).regrow t g w' v' top' (if(d&&d')=true then(c.G t).O else [])).ok b:=by
    intro b hb
    rcases o2 b hb with hb|hb
    ·exact hkp.ok b (hrd.inb b hb) (Cx.frz_ok (hN0 b hb))
    ·exact hkp.ok b (hnews.inb b hb) (hNok b hb)
   refine⟨.inr ⟨rfl,rfl⟩,fun g' hg'=> ?_,N', ?_,hok,fun hdd=> ?_,fun hdd=> ?_⟩
   ·rcases hg' with hg'|⟨_,rfl⟩
    ·exact hgen g' hg'
    ·exact Nat.le_refl _
   ·have e1:((c.frz (fz.map (·.1))).regrow t g w' v' top' (if(d&&d')=true then(c.G t).O else [])).H t g=v':=by simp [Cx.regrow]
    have e2:(((c.frz (fz.map (·.1))).regrow t g w' v' top' (if(d&&d')=true then(c.G t).O else [])).G t).top=top':=by simp [Cx.regrow]
    rw [e1,e2]
    show zdF w' el (P.cellsOf el) v' (AV.app (c0.den c.ρ) (ye.den c.ρ)) top' N'
    rw [hxs,hys];exact o1
   ·have hN':=o3 hdd
    have hdd':d'=true:=by simp only [Bool.and_eq_true]at hdd;exact hdd.2
    obtain⟨u1,u2⟩:=hd0 hdd'
    subst hN'
    refine⟨u1.frame fun b hb=>hkp.mem b (hrd.inb b hb) (Cx.frz_ok (hN0 b hb)), ?_⟩
    simp only [Cx.regrow,if_true,hdd];exact u2
   ·simp [Cx.regrow,hdd])
 have hSR:SR ((c.frz (fz.map (·.1))).regrow t g w' v' top' (if(d&&d')=true then(c.G t).O else [])) [.own t g] [v']:=by
  rw [hv9]
  exact .own (.inr ⟨rfl,rfl⟩) (by simp [Cx.regrow]) .nil
 refine hk _ ((c.frz (fz.map (·.1))).regrow t g w' v' top' (if(d&&d')=true then(c.G t).O else [])) ⟨rfl,rfl,rfl,rfl,fun u hu=> ?_⟩ ?_
 ·rcases hu with hu|rfl
  ·exact .inl hu
  ·exact hU u rfl
 ·have:=hfin.put (hSR.mkGd gs h.gs) o.dst
  rw [zkt];exact this
end
end Go.Proofs.YtecngjbpbnfegaaGreatDoor
end
section
namespace Go.Proofs.YtecngjbpbnfegaaGreatDoor
open Go.RowKit
section
variable {P:Program} {c:Cx} {n nx:Nat} {sl sl0:Nat→SV} {hp hp0:Nat→Option Ent} {a:Act} {o:Oper} {gs:Gd} {e:Eff} {sg:SgT} {nv:Nat}
theorem ze3 {t el:TypeId} (h:ze9 P t=some el):P.underlying t=some (.slice el):=by
 unfold ze9 at h
 split at h
 ·simp at h;subst h;assumption
 ·cases h
theorem zrJ {ts:List Nat} {l:List (Nat × Ent)} (k:zeF c.ρ gs) (h:zbe hp0 gs ts=some l): ∀t f,(t,f)∈l→ ∃g x f',Res c.ρ (hp0 t) f'∧ziK f' g x:=by
 intro t f hf
 obtain⟨_,_,g,x,f',_,r⟩:=(zdv k h).1 t f hf
 exact⟨g,x,f',r⟩
theorem zts (h:Pre P c n nx sl hp a sl0 hp0 o gs) {x y:Operand} {tx ty:TypeId} {cl:Call} (ho:o.op= .call cl) (hcl:cl.callee= .builtin .append) (ha1:cl.args.toList= [x,y]) (ha2:cl.argTypes.toList= [tx,ty])
  {s1 s2:SV} (hs1:zan sl0 gs x=some s1) (hs2:zan sl0 gs y=some s2) (he:zpW P hp0 gs nx tx ty s1 s2=some e) (hc: ∀q∈e.chk,Cn.den c.ρ q):zbJ P o c n nx sl hp gs a e:=by
 have hargs:cl.args= #[x,y]:=by apply Array.ext';simp [ha1]
 have hm1:x∈o.op.operands:=by simp [ho,Op.operands,Call.operands,hcl,hargs]
 unfold zpW at he
 split at he
 ·cases he
 rename_i htt
 have htt:tx=ty:=by simpa using htt
 subst htt
 split at he
 ·rename_i el hel
  have hel:=ze3 hel
  split at he
  ·cases he
  rename_i hz
  have hz:ziq P el=true:=by simpa using hz
  split at he
  ·cases he
  rename_i ye hy
  split at he
  ·cases he
  rename_i fz d ck htk
  obtain⟨ts,hfz⟩: ∃ts,zbe hp0 gs ts=some fz:=by
   unfold zpm at htk
   split at htk
   ·simp only [Option.some.injEq,Prod.mk.injEq]at htk;obtain⟨rfl,_⟩:=htk;exact⟨[],rfl⟩
   ·split at htk
    ·obtain⟨l,hl,htk⟩:=Option.map_eq_some_iff.1 htk
     simp only [Prod.mk.injEq]at htk;obtain⟨rfl,_⟩:=htk
     exact⟨_,hl⟩
    ·cases htk
  have r1:=h.opd hs1 hm1
  have fresh: ∀f,(nx,f)∉fz:=fun f hf=>by
   obtain⟨_,_,_,r,_⟩:=zrJ (c:=c) h.gs hfz nx f hf
   have r:=zjV h.hp r
   cases hh:hp nx with
   |none=>rw [hh]at r;exact r.elim
   |some e9=>exact ziV h (h.rel.usedH nx e9 hh)
  have hK: ∀g,¬c.K nx g:=fun g hg=>ziV h (h.rel.usedK _ _ hg)
  have hoff:=h.rel.off nx (fun e9 hr=>by
   cases hh:hp nx with
   |none=>rw [hh]at hr;exact hr.elim
   |some e8=>exact ziV h (h.rel.usedH nx e8 hh))
  have hpn:c.A.pin nx=none:=by
   cases hh:c.A.pin nx with
   |none=>rfl
   |some v=>exact absurd (h.rel.base.pins nx v hh).1 (ziV h)
  have hUn: ∀u,u=nx→c.U u∨(nx≤u∧u<nx+zao):=fun u hu=> .inr ⟨by omega,by rw [hu];simp [zao]⟩
  have hzc:P.cellsOf el≠0:=by
   obtain⟨i,_,_,_,_,h1,h2,_⟩:=zec hz
   omega
  split at he
  ·rename_i t g
   split at he
   ·rename_i e' sz' g' c0 d' hl
    split at he
    ·rename_i hh
     obtain⟨rfl,rfl,rfl,rfl,hnt⟩:=hh
     simp only [Option.some.injEq]at he;subst he
     have hres0:=zaV hl h.gs
     obtain⟨q1,q2,N,q3,q4,q5,q6⟩:=h.eh t _ hres0
     generalize hv:a.eval x=v at r1
     cases r1 with
     |own k1 k2 _=>
      have:=ziO (nx:=nx) h ho hcl ha1 ha2 hel hz hs2 hy htk (hc _ (by simp)) (t:=t) (g:=g+1) (.inr (by omega)) (c0:=c0) (d':=d') (hc _ (by simp)) (fun f hf=>by
        simp only [Bool.not_eq_true',List.contains_eq_mem,decide_eq_false_iff_not]at hnt
        exact hnt (List.mem_map.2 ⟨_,hf,rfl⟩)) (fun hh=>by have:=q2 _ hh;omega) hv (by rw [←k2];exact q3) rfl q4 q5 (fun g' hg'=>by have:=q2 _ hg';omega) (fun u hu=> .inl (by rw [hu];exact h.rel.usedK t g q1)) (ckl:= [.room c0 ye (P.bytesOf el),ck])
      exact this
    ·cases he
   ·cases he
  ·simp only [Option.some.injEq]at he;subst he
   generalize hv:a.eval x=v at r1
   cases r1 with
   |emp _=>
    have:=ziO (nx:=nx) h ho hcl ha1 ha2 hel hz hs2 hy htk (hc _ (by simp)) (t:=nx) (g:=0) (.inl hpn) (c0:= .lst .nil) (d':=true) (top:= []) (N0:= []) (hc _ (by simp)) fresh (hK 0) hv ⟨[],rfl,by simp,by omega, .inl ⟨rfl,⟨_,rfl⟩,rfl,rfl⟩⟩ hoff.1 (by simp) (fun _=>⟨rfl,hoff.2⟩) (fun g' hg'=>absurd hg' (hK g')) hUn (ckl:= [.room (.lst .nil) ye (P.bytesOf el),ck])
    rw [Bool.and_true]at this
    exact this
  ·simp only [Option.some.injEq]at he;subst he
   generalize hv:a.eval x=v at r1
   cases r1 with
   |nils _=>
    have:=ziO (nx:=nx) h ho hcl ha1 ha2 hel hz hs2 hy htk (hc _ (by simp)) (t:=nx) (g:=0) (.inl hpn) (c0:= .lst .nil) (d':=true) (top:= []) (N0:= []) (hc _ (by simp)) fresh (hK 0) hv ⟨[],rfl,by simp,by omega, .inl ⟨rfl,⟨_,rfl⟩,rfl,rfl⟩⟩ hoff.1 (by simp) (fun _=>⟨rfl,hoff.2⟩) (fun g' hg'=>absurd hg' (hK g')) hUn (ckl:= [.room (.lst .nil) ye (P.bytesOf el),ck])
    rw [Bool.and_true]at this
    exact this
  ·cases he
 ·cases he
end
end Go.Proofs.YtecngjbpbnfegaaGreatDoor
end
section
namespace Go.Proofs.YtecngjbpbnfegaaGreatDoor
open Go.RowKit
section
variable {P:Program} {c:Cx} {n nx:Nat} {sl sl0:Nat→SV} {hp hp0:Nat→Option Ent} {a:Act} {o:Oper} {gs:Gd} {e:Eff} {sg:SgT} {nv:Nat}
theorem zep: ∀{ts us:List Nat} {l m:List (Nat × Ent)},zbe hp0 gs ts=some l→zbe hp0 gs us=some m→zbe hp0 gs (ts++us)=some (l++m)
 | [],us,l,m,h,k=>by simp [zbe]at h;subst h;simpa using k
 |t::ts,us,l,m,h,k=>by
  unfold zbe at h
  simp only [List.cons_append]
  unfold zbe
  split at h
  ·rename_i ety sz g x d l' hl hl'
   have ih:=zep hl' k
   split at h
   ·rename_i hg
    simp at h;subst h
    simp [hl,ih,hg]
   ·cases h
  ·rename_i ety sz dl g ep x l' hl hl'
   have ih:=zep hl' k
   split at h
   ·rename_i hg
    simp at h;subst h
    simp [hl,ih,hg]
   ·cases h
  ·rename_i g x l' hl hl'
   have ih:=zep hl' k
   simp at h;subst h
   simp [hl,ih]
  ·rename_i ty g cs l' hl hl'
   have ih:=zep hl' k
   simp at h;subst h
   simp [hl,ih]
  ·cases h
theorem zoY {ts us:List Nat} (hs: ∀t∈ts,t∈us) {b:Nat} (h:(c.frz ts).ok b):(c.frz us).ok b:=by
 refine⟨fun hm=>h.1 ?_,h.2⟩
 obtain⟨u,hu,hb⟩:=Cx.frz_M hm
 exact⟨u,by simp only [Cx.frz];rw [if_neg (fun hh=>hu (hs u hh))];exact hb⟩
theorem zo0 {w:World} {v:Value} {x:AV} {f:List Nat} {t:TypeId} (h:Rd w [v] [x] f) (hg:zaY P t=true∨P.cellsOf t=1) (hx:if zaY P t then∃cs,x= .agg cs∧cs.length=P.cellsOf t else(∀cs,x≠ .agg cs)∧ ∀cs,x≠ .tup cs):
  Rd w v.cells.toList x.cells f∧(∀u∈v.cells.toList,u.oneCell'=true)∧x.cells.length=P.cellsOf t∧v.cells.size=P.cellsOf t:=by
 split at hx
 ·obtain⟨cs,rfl,hl⟩:=hx
  obtain⟨as,rfl,h1,h2⟩:=zjx h rfl
  have:=h2.len
  exact⟨by simpa [Value.cells,AV.cells]using h2,by simpa [Value.cells]using h1,hl,by simp [Value.cells];omega⟩
 ·rename_i hna
  have h1:P.cellsOf t=1:=by rcases hg with h'|h';exact absurd h' hna;exact h'
  have hone:=zlM h hx.1 hx.2
  have hxc:x.cells= [x]:=by cases x<;>first|rfl|exact absurd rfl (hx.1 _)
  rw [zmL hone,hxc]
  exact⟨by simpa using h,by simpa using hone,by simp [h1],by simp [h1]⟩
theorem znK (h:Rel c n sl hp a) (hs: ∀t e,hp0 t=some e→hp t=some e) (k:zeF c.ρ gs) {t:TypeId} (hg:zaY P t=true∨P.cellsOf t=1): ∀(ss:List SV) (vs:List Value) {xs:List E} {fz:List (Nat × Ent)} {d:Bool} {ck:List Cn},SR c ss vs→zo7 P hp0 gs t ss=some (xs,fz,d,ck)→(∀q∈ck,q.den c.ρ)→
  ∃N,Rd c.w (vs.flatMap fun v=>v.cells.toList) (zaQ (xs.map (E.den c.ρ))) N∧(d=true→N= [])∧(∃ts,zbe hp0 gs ts=some fz)∧(∀b∈N,(c.frz (fz.map (·.1))).ok b)∧(∀v∈vs,v.cells.size=P.cellsOf t∧ ∀u∈v.cells.toList,u.oneCell'=true)∧(∀x∈xs,(x.den c.ρ).cells.length=P.cellsOf t)∧xs.length=vs.length
 | [],vs,xs,fz,d,ck,hr,ht,hc=>by
  simp [zo7]at ht;obtain⟨rfl,rfl,rfl,rfl⟩:=ht
  cases hr
  exact⟨[],by simpa [zaQ]using Rd.nil,fun _=>rfl,⟨[],rfl⟩,by simp,by simp,by simp,rfl⟩
 |s::ss, [],xs,fz,d,ck,hr,ht,hc=>by have:=hr.len;simp at this
 |s::ss,v::vs,xs,fz,d,ck,hr,ht,hc=>by
  obtain⟨r1,r2⟩:=hr.uncons
  unfold zo7 at ht
  split at ht
  ·rename_i x fz1 d1 ck1 xs2 fz2 d2 ck2 h1 h2
   simp only [Option.some.injEq,Prod.mk.injEq]at ht;obtain⟨rfl,rfl,rfl,rfl⟩:=ht
   obtain⟨f,q1,q2,⟨ts1,q3,q4⟩,q5⟩:=zpD h hs k r1 h1 (fun q hq=>hc q (by simp [hq]))
   obtain⟨N,p1,p2,⟨ts2,p3⟩,p4,p5,p6,p7⟩:=znK h hs k hg ss vs r2 h2 (fun q hq=>hc q (by simp [hq]))
   obtain⟨o1,o2,o3,o4⟩:=zo0 (P:=P) q1 hg q5
   refine⟨f++N, ?_,fun hd=> ?_,⟨_,zep q3 p3⟩,fun b hb=> ?_, ?_, ?_,by simp [p7]⟩
   ·simpa [zaQ]using o1.app p1
   ·simp only [Bool.and_eq_true]at hd
    rw [q2 hd.1,p2 hd.2];rfl
   ·rcases List.mem_append.1 hb with hb|hb
    ·exact zoY (fun t ht=>by simp only [List.map_append,List.mem_append];exact .inl ht) (q4 b hb)
    ·exact zoY (fun t ht=>by simp only [List.map_append,List.mem_append];exact .inr ht) (p4 b hb)
   ·intro u hu
    rcases List.mem_cons.1 hu with rfl|hu
    ·exact⟨o4,o2⟩
    ·exact p5 u hu
   ·intro u hu
    rcases List.mem_cons.1 hu with rfl|hu
    ·exact o3
    ·exact p6 u hu
  ·cases ht
theorem znr {sz:Nat} (place:Nat→Option (Nat × Nat)) (hpl: ∀i,place i=some (i*sz,sz)): ∀(vs:List Value) (k:Nat) (C:Array Value) (pre suf:List Value),C.toList=pre++suf→pre.length=k*sz→suf.length=vs.length*sz→(∀v∈vs,v.cells.size=sz)→
  ∃C',Instr.fill place C ((vs.zipIdx k).map fun p=>(p.2,p.1))=some C'∧C'.toList=pre++vs.flatMap fun v=>v.cells.toList
 | [],k,C,pre,suf,h,_,h2,_=>by
  have:suf= []:=List.eq_nil_of_length_eq_zero (by simpa using h2)
  subst this
  exact⟨C,rfl,by simpa using h⟩
 |v::vs,k,C,pre,suf,h,h1,h2,h3=>by
  have hv:=h3 v (by simp)
  simp only [List.length_cons,Nat.add_mul,Nat.one_mul]at h2
  have hC:C.size=pre.length+suf.length:=by rw [←Array.length_toList,h,List.length_append]
  have hfs:(v.cells.zipIdx.foldl (fun cs (p:Value × Nat)=>cs.setIfInBounds (k*sz+p.2) p.1) C).toList=setVs C.toList (k*sz) v.cells.toList:=by
   have:=zuD v.cells.toList 0 (k*sz) C (by simp;omega)
   rw [←Array.foldl_toList,Array.toList_zipIdx]
   simpa using this
  have hset:setVs C.toList (k*sz) v.cells.toList=(pre++v.cells.toList)++suf.drop sz:=by
   unfold setVs
   rw [h,←h1,List.take_left' rfl]
   congr 1
   rw [List.drop_append,List.drop_eq_nil_of_le (by omega)]
   simp [hv]
  obtain⟨C',g1,g2⟩:=znr place hpl vs (k+1) (v.cells.zipIdx.foldl (fun cs (p:Value × Nat)=>cs.setIfInBounds (k*sz+p.2) p.1) C) (pre++v.cells.toList) (suf.drop sz) (by rw [hfs,hset]) (by simp [h1,hv,Nat.add_mul]) (by simp;omega) (fun u hu=>h3 u (by simp [hu]))
  refine⟨C', ?_,by rw [g2];simp⟩
  simp only [List.zipIdx_cons,List.map_cons]
  unfold Instr.fill
  simp only [hpl]
  rw [if_neg (by simp [hv];omega)]
  exact g1
theorem zbJ.newRow (h:Pre P c n nx sl hp a sl0 hp0 o gs) {ts:List Nat} {fz:List (Nat × Ent)} (hfz:zbe hp0 gs ts=some fz) {el:TypeId} {C:Array Value} {cap:Nat} {xs:List AV} {x:E} {d:Bool} {N:List Nat} {ckl:List Cn} {wd:World} (hwd:wd.heap=c.w.heap∧wd.os=c.w.os∧wd.tape=c.w.tape∧wd.output=c.w.output)
  (hr:(execOp a.eval o).run P c.w= .ok (.value (.slice (some ⟨c.w.heap.size,0,none⟩) xs.length cap)) (wd.alloc (.cells C el))) (hx:x.den c.ρ= .sl xs) (hsz:P.cellsOf el≠0) (hcl: ∀y∈xs,y.cells.length=P.cellsOf el) (hle:xs.length≤cap) (hcap:cap≤maxLen) (hC:C.size=cap*P.cellsOf el)
  (h1: ∀u∈C.toList.take (xs.length*P.cellsOf el),u.oneCell'=true) (hN:Rd c.w (C.toList.take (xs.length*P.cellsOf el)) (zaQ xs) N) (hNok: ∀b∈N,(c.frz (fz.map (·.1))).ok b) (hd:d=true→N= []):
  zbJ P o c n nx sl hp gs a {chk:=ckl,val:= .own nx 0,ent:=fz++ [(nx,zeG gs (.row el (P.cellsOf el) 0 x d))]}:=by
 intro next Q hk
 unfold Oper.wp
 rw [hr,Oper.upon_value]
 have hU:=ziV h
 have hrel1:=h.rel.freeze h.hp h.gs hfz
 have hK: ∀g,¬c.K nx g:=fun g hg=>hU (h.rel.usedK _ _ hg)
 have hpn:c.A.pin nx=none:=by
  cases hh:c.A.pin nx with
  |none=>rfl
  |some v=>exact absurd (h.rel.base.pins nx v hh).1 hU
 have hoff:=h.rel.off nx (fun e9 hr=>by
  cases hh:hp nx with
  |none=>rw [hh]at hr;exact hr.elim
  |some e8=>exact hU (h.rel.usedH nx e8 hh))
 obtain⟨w1,w2,w3,w4⟩:=hwd
 have hgr:c.w.grownBy (wd.alloc (.cells C el)) (some c.w.heap.size):=by
  refine⟨w2,w3,w4, ?_,fun k hk _=> ?_⟩
  ·show c.w.heap.size≤(wd.heap.push _).size
   simp [w1]
  ·have:=Below.heap_alloc wd (.cells C el) k (by rw [w1];exact hk)
   rw [this,w1]
 have hnewb:(wd.alloc (.cells C el)).heap[c.w.heap.size]?=some (.cells C el (0,0)):=by
  have:=heap_alloc_new wd (.cells C el)
  rw [w1]at this;exact this
 have hlt:c.w.heap.size<(wd.alloc (.cells C el)).heap.size:=zcn hnewb
 have hO:(c.frz (fz.map (·.1))).G nx=⟨[], []⟩∨((c.frz (fz.map (·.1))).G nx).O= []:=by
  right
  simp only [Cx.frz];split
  ·rfl
  ·exact hoff.2
 have hfin:=hrel1.regrow (gs:=gs) (t:=nx) (g:=0) (w':=wd.alloc (.cells C el)) (row:=some c.w.heap.size) (top:= [c.w.heap.size]) (O:= []) (v:= .slice (some ⟨c.w.heap.size,0,none⟩) xs.length cap) (.inl hpn) (hK 0) hgr (fun g0 hg0=>by cases hg0;exact .inr ⟨rfl,hlt⟩) (.inr ⟨_,rfl,rfl⟩) (.inl rfl)
  (.row el (P.cellsOf el) 0 x d) (by intros;simp) h.gs (fun hkp=>by
   refine⟨.inr ⟨rfl,rfl⟩,fun g' hg'=> ?_,N, ?_,fun b hb=>hkp.ok b (hN.inb b hb) (hNok b hb),fun hdd=> ?_,fun _=>by simp [Cx.regrow]⟩
   ·rcases hg' with hg'|⟨_,rfl⟩
    ·exact absurd hg' (hK g')
    ·exact Nat.le_refl _
   ·have e1:((c.frz (fz.map (·.1))).regrow nx 0 (wd.alloc (.cells C el)) (.slice (some ⟨c.w.heap.size,0,none⟩) xs.length cap) [c.w.heap.size] []).H nx 0= .slice (some ⟨c.w.heap.size,0,none⟩) xs.length cap:=by simp [Cx.regrow]
    have e2:(((c.frz (fz.map (·.1))).regrow nx 0 (wd.alloc (.cells C el)) (.slice (some ⟨c.w.heap.size,0,none⟩) xs.length cap) [c.w.heap.size] []).G nx).top= [c.w.heap.size]:=by simp [Cx.regrow]
    rw [e1,e2]
    show zdF (wd.alloc (.cells C el)) el (P.cellsOf el) _ (x.den c.ρ) _ N
    rw [hx]
    exact⟨xs,rfl,hcl,by omega, .inr ⟨_,cap,C,rfl,hle,hcap,hnewb,hC,rfl,h1,hN.frame fun b hb=>hkp.mem b (hN.inb b hb) (hNok b hb)⟩⟩
   ·rw [hd hdd];exact⟨rfl,by simp [Cx.regrow]⟩)
 have hSR:SR ((c.frz (fz.map (·.1))).regrow nx 0 (wd.alloc (.cells C el)) (.slice (some ⟨c.w.heap.size,0,none⟩) xs.length cap) [c.w.heap.size] []) [.own nx 0] [.slice (some ⟨c.w.heap.size,0,none⟩) xs.length cap]:=
  .own (.inr ⟨rfl,rfl⟩) (by simp [Cx.regrow]) .nil
 refine hk _ ((c.frz (fz.map (·.1))).regrow nx 0 (wd.alloc (.cells C el)) (.slice (some ⟨c.w.heap.size,0,none⟩) xs.length cap) [c.w.heap.size] []) ⟨rfl,rfl,rfl,rfl,fun u hu=> ?_⟩ ?_
 ·rcases hu with hu|rfl
  ·exact .inl hu
  ·exact .inr ⟨Nat.le_refl _,by simp [zao]⟩
 ·have:=hfin.put (hSR.mkGd gs h.gs) o.dst
  rw [zkt];exact this
theorem zk3 {t el:TypeId} (hu:P.underlying t=some (.slice el)) (hty:zlS P el=true) {i:TypeInfo} {z:Value} (hi:P.info? el=some i) (hz:i.zero=some z) (hco:P.cellsOf el=i.size) (m:Nat) (hle:m*i.size≤2^24) (parts:Array (Nat × Value)) (C:Array Value)
  (hf:Instr.fill (fun j=>some (j*i.size,i.size)) ((Array.range (m*i.size)).map (fun j=>(if m*i.size=0 then #[]else z.cells)[j % (if m*i.size=0 then #[]else z.cells).size]!)) parts.toList=some C) (w:World):
  (Instr.buildSlice t m parts).run P w= .ok (.slice (some ⟨w.heap.size,0,none⟩) m m) (w.alloc (.cells C el)):=by
 have hlim: ¬(2^24<m*i.size):=by omega
 have hr0:Array.range 0= #[]:=rfl
 by_cases h0:m*i.size=0
 ·simp only [h0,if_true,hr0]at hf
  have hem: ∀f:Nat→Value,Array.map f #[]= #[]:=fun f=>by simp
  rw [hem]at hf
  simp only [Instr.buildSlice,Sem.run_bind,run_underlying hu,Result.andThen_ok,zfz hty,hco]
  simp [h0,hr0,hf,newRow]
 ·simp only [h0,if_false]at hf
  simp only [Instr.buildSlice,Sem.run_bind,run_underlying hu,Result.andThen_ok,zfz hty,hco]
  simp [h0,hlim,zeroValue,typeInfo,hi,hz,hf,newRow]
theorem zol (h:Pre P c n nx sl hp a sl0 hp0 o gs) {t:TypeId} {m:Nat} {parts:Array (Nat × Operand)} (ho:o.op= .buildSlice t m parts) {ps:List (Nat × SV)} (hps:parts.toList.mapM (fun(p:Nat × Operand)=>(zan sl0 gs p.2).map fun s=>(p.1,s))=some ps) (he:ziL P hp0 gs nx t m ps=some e) (hc: ∀q∈e.chk,Cn.den c.ρ q):zbJ P o c n nx sl hp gs a e:=by
 obtain⟨e1,e2⟩:=zkm (c:=c) (a:=a) (parts.toList.map (·.2)) (fun x s hx hm=>h.opd hx (by simpa [ho,Op.operands]using hm)) (fun x hx=>List.mem_map.2 ⟨x,hx,rfl⟩) hps
 unfold ziL at he
 split at he
 ·rename_i el hel
  have hel:=ze3 hel
  split at he
  ·cases he
  rename_i hcond
  simp only [not_or,Bool.not_eq_true',Bool.not_eq_false',ne_eq,Bool.not_eq_false,Nat.not_lt,Decidable.not_not]at hcond
  obtain⟨hz,hty,hag,hle,hdense⟩:=hcond
  have hag:zaY P el=true∨P.cellsOf el=1:=by simpa using hag
  obtain⟨i,z,hi,hiz,hzs,hsz,hco,hby⟩:=zec hz
  split at he
  ·rename_i xs fz d ck hta
   split at he
   ·simp only [Option.some.injEq]at he;subst he
    obtain⟨N,p1,p2,⟨ts,p3⟩,p4,p5,p6,p7⟩:=znK h.rel h.hp h.gs hag (ps.map (·.2)) (parts.toList.map fun p=>a.eval p.2) e2 hta hc
    have hlen:(parts.toList.map fun p=>a.eval p.2).length=m:=by
     have:ps.length=m:=by
      have:=congrArg List.length hdense;simpa using this
     have h9:=congrArg List.length e1
     simp at h9 ⊢;omega
    have hparts:(parts.map fun(x:Nat × Operand)=>(x.1,a.eval x.2)).toList=((parts.toList.map fun p=>a.eval p.2).zipIdx 0).map fun p=>(p.2,p.1):=by
     have hidx:parts.toList.map (·.1)=List.range m:=by rw [←e1,hdense]
     apply List.ext_getElem?
     intro j
     have hj:(parts.toList.map (·.1))[j]?=(List.range m)[j]?:=by rw [hidx]
     simp only [Array.toList_map,List.getElem?_map,List.getElem?_zipIdx]at hj ⊢
     cases hp:parts.toList[j]? with
     |none=>simp
     |some p=>
      rw [hp]at hj
      simp only [Option.map_some,Option.some.injEq]at hj ⊢
      have hjm:j<m:=by
       rcases Nat.lt_or_ge j m with hh|hh
       ·exact hh
       ·rw [List.getElem?_eq_none (by simpa using hh)]at hj;cases hj
      rw [List.getElem?_range hjm]at hj
      simp at hj
      simp [hj]
    obtain⟨C',f1,f2⟩:=znr (sz:=i.size) (fun j=>some (j*i.size,i.size)) (fun j=>rfl) (parts.toList.map fun p=>a.eval p.2) 0 ((Array.range (m*i.size)).map (fun j=>(if m*i.size=0 then #[]else z.cells)[j % (if m*i.size=0 then #[]else z.cells).size]!)) [] _ (by simp;rfl) (by simp) (by simp [hlen]) (fun v hv=>by rw [←hco];exact(p5 v hv).1)
    have hCl:C'.toList.length=m*P.cellsOf el:=by
     rw [f2,hco]
     simp only [List.nil_append]
     have: ∀(L:List Value),(∀v∈L,v.cells.size=i.size)→(L.flatMap fun v=>v.cells.toList).length=L.length*i.size:=by
      intro L
      induction L with
      |nil=>intro _;simp
      |cons v L ih=>
       intro hL
       simp only [List.flatMap_cons,List.length_append,List.length_cons,Array.length_toList]
       rw [ih (fun u hu=>hL u (by simp [hu])),hL v (by simp),Nat.add_mul];omega
     rw [this _ (fun v hv=>by rw [←hco];exact(p5 v hv).1),hlen]
    have hxl:(xs.map (E.den c.ρ)).length=m:=by rw [List.length_map,p7,hlen]
    have htake:C'.toList.take ((xs.map (E.den c.ρ)).length*P.cellsOf el)=(parts.toList.map fun p=>a.eval p.2).flatMap fun v=>v.cells.toList:=by
     rw [hxl,←hCl,List.take_length,f2];simp
    refine zbJ.newRow (xs:=xs.map (E.den c.ρ)) (N:=N) (C:=C') (cap:=m) (wd:=c.w) h p3 ⟨rfl,rfl,rfl,rfl⟩ ?_ (by simp [E.den,EL.den_of]) (by omega) (fun y hy=> ?_) (by omega) (by simp only [maxLen];have:m*1≤m*P.cellsOf el:=Nat.mul_le_mul_left _ (by omega);omega) (by rw [←Array.length_toList,hCl]) ?_ (by rw [htake];exact p1) p4 p2
    ·rw [hxl]
     have hrun:=zk3 (P:=P) hel hty hi hiz hco m (by rw [←hco];omega) (parts.map fun(x:Nat × Operand)=>(x.1,a.eval x.2)) C' (by rw [hparts];exact f1) c.w
     simp only [execOp,ho,Sem.run_bind]
     rw [hrun];rfl
    ·obtain⟨q,hq,rfl⟩:=List.mem_map.1 hy
     exact p6 q hq
    ·rw [htake]
     intro u hu
     obtain⟨v,hv,hu⟩:=List.mem_flatMap.1 hu
     exact(p5 v hv).2 u hu
   ·cases he
  ·cases he
 ·cases he
end
end Go.Proofs.YtecngjbpbnfegaaGreatDoor
end
section
namespace Go.Proofs.YtecngjbpbnfegaaGreatDoor
open Go.RowKit
section
variable {P:Program} {c:Cx} {n nx:Nat} {sl sl0:Nat→SV} {hp hp0:Nat→Option Ent} {a:Act} {o:Oper} {gs:Gd} {e:Eff} {sg:SgT} {nv:Nat}
def Cx.wrO (c:Cx) (w':World) (t:Nat) (O:List Nat):Cx:={c with w:=w',G:=fun u=>if u=t then⟨(c.G t).top,O⟩else c.G u,E:=fun u=>if u=t then c.E u+1 else c.E u}
theorem Rel.writeO (h:Rel c n sl hp a) {t:Nat} {e0:Ent} {b:Nat} {w':World} {O:List Nat} (hres:Res c.ρ (hp t) e0) (htop:b∈(c.G t).top) (hO:O= []∨O=(c.G t).O) (hm:Mod [b] c.w w') (hsz:w'.heap.size=c.w.heap.size) (e1:Ent) (hne: ∀hs f,e1≠ .gd hs f)
  (he:zm4 c (c.wrO w' t O)→zkI (c.wrO w' t O) t e1):
  Rel (c.wrO w' t O) n sl (zeH hp [(t,e1)]) a:=by
 have hown:b∈(c.G t).own:=by simp [GI.own,htop]
 have hG: ∀u,(c.wrO w' t O).G u=if u=t then⟨(c.G t).top,O⟩else c.G u:=fun u=>rfl
 have htops: ∀u,((c.wrO w' t O).G u).top=(c.G u).top:=by
  intro u;rw [hG];split
  ·rename_i hu;rw [hu]
  ·rfl
 have hsub: ∀u,∀q∈((c.wrO w' t O).G u).own,q∈(c.G u).own:=by
  intro u q hq
  rw [hG]at hq
  split at hq
  ·rename_i hu;subst hu
   simp only [GI.own,List.mem_append]at hq ⊢
   rcases hq with hq|hq
   ·exact .inl hq
   ·rcases hO with rfl|rfl
    ·simp at hq
    ·exact .inr hq
  ·exact hq
 have hkeep:zm4 c (c.wrO w' t O):=by
  refine⟨rfl,fun q _ hq=>⟨fun⟨u,hu⟩=>hq.1 ⟨u,by rw [htops]at hu;exact hu⟩,hq.2⟩,fun q hq hok=>hm.block q hq ?_,fun u g hu=>⟨hu,rfl⟩,fun u g hu=> ?_⟩
  ·simp only [List.mem_singleton]
   rintro rfl
   exact hok.1 ⟨t,htop⟩
  ·by_cases hut:u=t
   ·have e1:(c.wrO w' t O).E u=c.E u+1:=by simp only [Cx.wrO,if_pos hut]
    exact⟨by omega,fun h=>by omega⟩
   ·have e1:(c.wrO w' t O).E u=c.E u:=by simp only [Cx.wrO,if_neg hut]
    have e2:(c.wrO w' t O).G u=c.G u:=by simp only [Cx.wrO,if_neg hut]
    rw [e1]
    refine⟨Nat.le_refl _,fun _=>⟨e2,fun q hq hq2=>hm.block q hq2 ?_⟩⟩
    simp only [List.mem_singleton]
    rintro rfl
    exact h.gw.disj t u (Ne.symm hut) q hown (by simp [GI.own,hq])
 have hup: ∀u,zeH hp [(t,e1)] u=if u=t then some e1 else hp u:=fun u=>rfl
 refine h.change (fun u=>u=t) hkeep ⟨hm.os.trans h.base.os,hm.tape.trans h.base.tape,hm.output.trans h.base.output,Nat.le_trans h.base.size hm.size,h.base.pins,fun q hq hmu=> ?_⟩
  (fun u hu=>⟨by rw [hup,if_neg hu],by rw [hG,if_neg hu],by simp [Cx.wrO,hu],fun g hg=>hg⟩) (fun u hu q hq=>hm.block q (h.gw.inb u q (by simp [GI.own,hq])) ?_) (fun u hu=> ?_) ⟨fun u=> ?_,fun u v huv q hq hq'=>h.gw.disj u v huv q (hsub u q hq) (hsub v q hq'),fun u q hq=>h.gw.allow u q (hsub u q hq),fun u q hq=> ?_⟩ h.usedK (fun u f hf=> ?_)
 ·refine(hm.block q (Nat.lt_of_lt_of_le hq h.base.size) ?_).trans (h.base.block q hq hmu)
  simp only [List.mem_singleton]
  rintro rfl
  rcases h.gw.allow t q hown with hh|hh
  ·exact absurd hh (Nat.not_le.2 hq)
  ·exact hmu hh
 ·simp only [List.mem_singleton]
  rintro rfl
  exact h.gw.disj t u (Ne.symm hu) q hown (by simp [GI.own,hq])
 ·subst hu
  rw [hup,if_pos rfl]
  refine⟨fun e' hr=> ?_,fun hn=> ?_⟩
  ·cases e1<;>first
    |(simp only [Res]at hr;subst hr;exact he hkeep)
    |exact absurd rfl (hne _ _)
  ·cases e1<;>first
    |exact absurd rfl (hne _ _)
    |exact absurd rfl (hn _)
 ·rw [hG]
  split
  ·rename_i hu;subst hu
   have h0:=h.gw.nodup u
   simp only [GI.own]at h0 ⊢
   rcases hO with rfl|rfl
   ·rw [List.append_nil];exact(List.nodup_append.1 h0).1
   ·exact h0
  ·exact h.gw.nodup u
 ·show q<w'.heap.size
  rw [hsz];exact h.gw.inb u q (hsub u q hq)
 ·rw [hup]at hf
  split at hf
  ·rename_i hu;subst hu
   cases hh:hp u with
   |none=>rw [hh]at hres;exact hres.elim
   |some e9=>exact h.usedH u e9 hh
  ·exact h.usedH u f hf
theorem zhz {α:Type} (L vs:List α) (p m:Nat) (h:p+vs.length≤m) (hm:m≤L.length):(setVs L p vs).take m=setVs (L.take m) p vs:=by
 apply List.ext_getElem?
 intro j
 have hl:(L.take m).length=m:=by rw [List.length_take];omega
 rw [List.getElem?_take,zih (L.take m) vs p (by omega) j,zih L vs p (by omega) j,List.getElem?_take]
 by_cases h1:p≤j∧j<p+vs.length
 ·rw [if_pos (by omega),if_pos h1,if_pos h1]
 ·rw [if_neg h1,if_neg h1]
theorem Rd.setVs {w:World} {L V:List Value} {X Y:List AV} {N f:List Nat} {p:Nat} (h:Rd w L X N) (k:Rd w V Y f) (hp:p+V.length≤L.length):
  ∃n1 n2 n3,N=n1++n2++n3∧Rd w (Go.Proofs.YtecngjbpbnfegaaGreatDoor.setVs L p V) (Go.Proofs.YtecngjbpbnfegaaGreatDoor.setVs X p Y) (n1++f++n3)∧Rd w ((L.drop p).take V.length) ((X.drop p).take V.length) n2:=by
 have hl:=h.len
 have hk:=k.len
 have e1:L=L.take p++((L.drop p).take V.length++L.drop (p+V.length)):=by
  rw [←List.drop_drop,List.take_append_drop,List.take_append_drop]
 have e2:X=X.take p++((X.drop p).take V.length++X.drop (p+V.length)):=by
  rw [←List.drop_drop,List.take_append_drop,List.take_append_drop]
 have h':=h
 rw [e1,e2]at h'
 obtain⟨n1,m,rfl,g1,g2⟩:=Rd.unapp (by simp;omega) h'
 obtain⟨n2,n3,rfl,g3,g4⟩:=Rd.unapp (by simp;omega) g2
 refine⟨n1,n2,n3,by simp, ?_,g3⟩
 unfold Go.Proofs.YtecngjbpbnfegaaGreatDoor.setVs
 rw [←hk]
 exact(g1.app k).app g4
theorem zmX {sz:Nat}: ∀(ys:List AV) (k:Nat) (z y:AV) (o:Nat) (vc:List AV),(∀y∈ys,y.cells.length=sz)→ys[k]?=some y→o+vc.length≤sz→z.cells=setVs y.cells o vc→zaQ (ys.set k z)=setVs (zaQ ys) (k*sz+o) vc
 | [],k,z,y,o,vc,_,h,_,_=>by simp at h
 |q::ys,0,z,y,o,vc,hs,h,ho,hz=>by
  simp at h;subst h
  have hq:=hs q (by simp)
  simp only [zaQ,List.set_cons_zero,List.flatMap_cons,Nat.zero_mul,Nat.zero_add,hz]
  unfold setVs
  rw [List.take_append_of_le_length (by omega),List.drop_append_of_le_length (by omega)]
  simp
 |q::ys,k+1,z,y,o,vc,hs,h,ho,hz=>by
  have hq:=hs q (by simp)
  have ih:=zmX ys k z y o vc (fun u hu=>hs u (by simp [hu])) (by simpa using h) ho hz
  simp only [zaQ,List.set_cons_succ,List.flatMap_cons]at ih ⊢
  rw [ih]
  unfold setVs
  have e0:(k+1)*sz+o=q.cells.length+(k*sz+o):=by rw [hq,Nat.add_mul];omega
  rw [e0,List.take_length_add_append,Nat.add_assoc (q.cells.length),List.drop_length_add_append]
  simp
theorem znd {y x:AV} {k:Nat} {g:Bool} (hx:(∀cs,x≠ .agg cs)∨g=true) (hy:g=false→y.cells.length=1∧k=0∧x.cells= [x]):(y.putF k x g).cells=setVs y.cells k x.cells:=by
 cases g with
 |true=>simp [AV.putF,AV.cells,setVs]
 |false=>
  obtain⟨h1,h2,h3⟩:=hy rfl
  subst h2
  simp only [AV.putF,h3,setVs]
  rw [if_neg (by simp)]
  rw [h3]
  simp only [List.take_zero,List.nil_append,List.length_cons,List.length_nil,Nat.zero_add]
  rw [List.drop_eq_nil_of_le (by omega)]
  simp
theorem zsJ (h:Pre P c n nx sl hp a sl0 hp0 o gs) {t:TypeId} {x y:Operand} (ho:o.op= .store t x y) {b g:Nat} {ix:E} {sz k:Nat} {s:SV} (hrow: ∃e z g c d,zlm hp0 gs b=some (.row e z g c d)) (hx:zan sl0 gs x=some (.rptr b g ix sz k)) (hy:zan sl0 gs y=some s)
  (he:zhU P hp0 gs t (.rptr b g ix sz k) s=some e) (hc: ∀q∈e.chk,Cn.den c.ρ q):zbJ P o c n nx sl hp gs a e:=by
 have r1:=h.opd hx (by simp [ho,Op.operands])
 have r2:=h.opd hy (by simp [ho,Op.operands])
 simp only [zhU]at he
 split at he
 ·rename_i el sz' g' c0 d hl
  split at he
  ·rename_i hh
   obtain⟨rfl,rfl,rfl,hty,hle,hagE,hagT⟩:=hh
   split at he
   ·rename_i xe fz dx ck htk
    split at he
    ·cases he
    rename_i hnt
    simp only [Option.some.injEq]at he;subst he
    have hnt: ∀f,(b,f)∉fz:=fun f hf=>hnt (by simp only [List.contains_eq_mem,decide_eq_true_eq];exact List.mem_map.2 ⟨_,hf,rfl⟩)
    obtain⟨f,q1,q2,⟨ts,q3⟩,q5⟩:=zpD h.rel h.hp h.gs r2 htk (fun q hq=>hc q (by simp [hq]))
    obtain⟨q3,q4⟩:=q3
    have hres:=zjV h.hp (zaV hl h.gs)
    have hrel1:=h.rel.freeze h.hp h.gs q3
    have hres1:Res (c.frz (fz.map (·.1))).ρ (zeH hp fz b) (.row el sz g c0 d):=by rw [zhq hnt];exact hres
    obtain⟨e1,e2,N,e3,e4,e5,e6⟩:=hrel1.ents b _ hres1
    obtain⟨o1,o2,o3,o4⟩:=zo0 (P:=P) q1 hagT q5
    generalize hv:a.eval x=v at r1
    cases r1 with
    |rptr k1 k2 k3 k4 k5 _=>
     rename_i m len cap kk kv k6
     obtain⟨xs,p1,p2,p3,pcase⟩:=e3
     have p1':c0.den c.ρ= .sl xs:=p1
     rcases pcase with⟨_,⟨_,pv⟩,_⟩|⟨g9,cap9,C,pv,p4,p5,p6,p7,p8,p9,p10⟩
     ·exfalso
      have:c.H b g=_:=pv
      rw [k2]at this;cases this;omega
     ·have pv':c.H b g= .slice (some ⟨g9,0,none⟩) xs.length cap9:=pv
      rw [k2]at pv'
      simp only [Value.slice.injEq,Option.some.injEq,Addr.mk.injEq,and_true]at pv'
      obtain⟨rfl,rfl,rfl⟩:=pv'
      have hkl:kv.toNat<xs.length:=by omega
      have hnth:=znW hkl
      generalize hyk:(AV.sl xs).nth kv.toNat=yk at hnth
      have hykl:=p2 yk (List.mem_of_getElem? hnth)
      have hvl:(a.eval y).cells.toList.length=P.cellsOf t:=by simpa using o4
      have hmul:(kv.toNat+1)*sz≤xs.length*sz:=Nat.mul_le_mul_right _ (by omega)
      have hCl:C.toList.length=cap*sz:=by simpa using p7
      have hmul2:xs.length*sz≤cap*sz:=Nat.mul_le_mul_right _ p4
      rw [Nat.add_mul]at hmul
      have p6':c.w.heap[m]?=some (.cells C el (0,0)):=p6
      obtain⟨m1,m2,m3⟩:=zgK (vs:=(a.eval y).cells.toList) p6' (show(kv.toNat*sz+k)+_≤C.size by rw [hvl,p7];omega)
      have hlC:(C.toList.take (xs.length*sz)).length=xs.length*sz:=by rw [List.length_take,hCl];omega
      obtain⟨n1,n2,n3,hN,s1,s2⟩:=Rd.setVs (p:=kv.toNat*sz+k) p10 o1 (by rw [hlC,hvl];omega)
      have hkeepw: ∀z,z<c.w.heap.size→(c.frz (fz.map (·.1))).ok z→(za1 c.w m (kv.toNat*sz+k) (a.eval y).cells.toList).heap[z]?=c.w.heap[z]?:=by
       intro z hz hok
       refine m1.block z hz ?_
       simp only [List.mem_singleton]
       rintro rfl
       exact hok.1 ⟨b,by rw [p8];simp⟩
      have hflat:(d&&dx)=true→n2= []∧f= []:=by
       intro hdd
       have hcf:Cn.den c.ρ (.flat (.fld (.idx c0 ix) k (P.cellsOf t) (zaY P t)) (P.cellsOf t) (zaY P t)):=hc _ (by simp [hdd])
       obtain⟨f1,f2,f3,f4⟩:=hcf
       simp only [Bool.and_eq_true]at hdd
       refine⟨?_,q2 hdd.2⟩
       have hpiece:((zaQ xs).drop (kv.toNat*sz+k)).take (a.eval y).cells.toList.length=(yk.cells.drop k).take (P.cellsOf t):=by
        rw [hvl];exact zjH xs p2 _ _ hnth k (P.cellsOf t) hle
       rw [hpiece]at s2
       have hden:(E.fld (.idx c0 ix) k (P.cellsOf t) (zaY P t)).den c.ρ=yk.fld k (P.cellsOf t) (zaY P t):=by
        simp only [E.den,p1',k3,AV.idx,hyk]
       rw [hden]at f2
       refine zfT s2 ?_
       cases hg:zaY P t with
       |true=>
        rw [hg]at f2
        simpa [AV.fld,AV.cells]using f2
       |false=>
        have h1:P.cellsOf t=1:=by rcases hagT with h'|h';rw [hg]at h';cases h';exact h'
        rw [hden]at f4
        have f4:=f4 hg
        rw [hg]at f4
        have hlt:k<yk.cells.length:=by omega
        rw [h1,List.drop_eq_getElem_cons hlt,List.take_succ_cons,List.take_zero]
        simp only [List.mem_singleton,forall_eq]
        simpa [AV.fld,hlt]using f4
      have hz:(yk.putF k (xe.den c.ρ) (zaY P el)).cells=setVs yk.cells k (xe.den c.ρ).cells:=by
       refine znd ?_ (fun hg=> ?_)
       ·cases hg:zaY P el with
        |true=>exact .inr rfl
        |false=>
         left
         rcases hagE with h'|⟨_,h'⟩
         ·rw [hg]at h';cases h'
         ·have h':zaY P t=false:=by simpa using h'
          rw [h']at q5
          exact fun cs=>(q5.1 cs)
       ·rcases hagE with h'|⟨h1,h'⟩
        ·rw [hg]at h';cases h'
        ·have h':zaY P t=false:=by simpa using h'
         rw [h']at q5
         have hct:P.cellsOf t=1:=by rcases hagT with h2|h2;rw [h']at h2;cases h2;exact h2
         refine⟨by omega,by omega, ?_⟩
         cases hxe:xe.den c.ρ<;>first|rfl|exact absurd hxe (q5.1 _)
      have hflatC:zaQ (xs.set kv.toNat (yk.putF k (xe.den c.ρ) (zaY P el)))=setVs (zaQ xs) (kv.toNat*sz+k) (xe.den c.ρ).cells:=
       zmX xs _ _ yk k _ p2 hnth (by rw [o3];exact hle) hz
      have hfin:=hrel1.writeO (t:=b) (b:=m) (w':=za1 c.w m (kv.toNat*sz+k) (a.eval y).cells.toList) (O:=if(d&&dx)=true then((c.frz (fz.map (·.1))).G b).O else []) hres1 (by rw [p8];simp) (by split;exact .inr rfl;exact .inl rfl) m1 m3
       (.row el sz g (.set c0 ix (.put (.idx c0 ix) k xe (zaY P el))) (d&&dx)) (by intros;simp) (fun hkp=>by
        have hNok: ∀z∈n1++f++n3,(c.frz (fz.map (·.1))).ok z:=by
         intro z hz
         simp only [List.mem_append]at hz
         rcases hz with(hz|hz)|hz
         ·exact e4 z (by rw [hN];simp [hz])
         ·exact q4 z hz
         ·exact e4 z (by rw [hN];simp [hz])
        have hNin: ∀z∈n1++f++n3,z<c.w.heap.size:=s1.inb
        refine⟨e1,e2,n1++f++n3,⟨xs.set kv.toNat (yk.putF k (xe.den c.ρ) (zaY P el)), ?_,fun z hzm=> ?_,p3, .inr ⟨m,cap,_, ?_,by simpa using p4,p5,m2, ?_, ?_, ?_, ?_⟩⟩,fun z hz=>hkp.ok z (hNin z hz) (hNok z hz),fun hdd=> ?_,fun hdd=> ?_⟩
        ·show AV.setNth (c0.den c.ρ) (ix.den c.ρ) (((c0.den c.ρ).idx (ix.den c.ρ)).putF k (xe.den c.ρ) (zaY P el))=_
         rw [p1',k3];simp only [AV.idx,hyk,AV.setNth]
        ·rcases List.mem_or_eq_of_mem_set hzm with hzm|rfl
         ·exact p2 z hzm
         ·rw [hz,zix _ _ _ (by rw [o3,hykl];exact hle)];exact hykl
        ·rw [List.length_set];exact k2
        ·rw [List.size_toArray,zix _ _ _ (by rw [hvl,hCl];omega),Array.length_toList];exact p7
        ·simpa [Cx.wrO]using p8
        ·simp only [List.length_set,List.toList_toArray]
         rw [zhz _ _ _ _ (by rw [hvl];omega) (by rw [hCl];omega)]
         intro u hu
         unfold setVs at hu
         simp only [List.mem_append]at hu
         rcases hu with(hu|hu)|hu
         ·exact p9 u (List.mem_of_mem_take hu)
         ·exact o2 u hu
         ·exact p9 u (List.mem_of_mem_drop hu)
        ·simp only [List.length_set,List.toList_toArray]
         rw [zhz _ _ _ _ (by rw [hvl];omega) (by rw [hCl];omega),hflatC]
         exact s1.frame fun z hz=>hkeepw z (hNin z hz) (hNok z hz)
        ·obtain⟨z1,z2⟩:=hflat hdd
         have hd:d=true:=by simp only [Bool.and_eq_true]at hdd;exact hdd.1
         obtain⟨u1,u2⟩:=e5 hd
         have hNN:n1++f++n3=N:=by rw [hN,z1,z2]
         rw [hNN]
         refine⟨u1.frame fun z hz=>hkeepw z (p10.inb z hz) (e4 z hz), ?_⟩
         simp only [Cx.wrO,if_true,hdd];exact u2
        ·simp [Cx.wrO,hdd])
      intro next Q hk
      unfold Oper.wp
      have hr:(execOp a.eval o).run P c.w= .ok .skip (za1 c.w m (kv.toNat*sz+k) (a.eval y).cells.toList):=by
       have:=zl0 (P:=P) (t:=t) (v:=a.eval y) (off:=kv.toNat*sz+k) p6' hty o4 (by rw [o4,p7];omega) o2
       simp [execOp,ho,hv,this]
      rw [hr,Oper.upon_skip]
      refine hk _ ((c.frz (fz.map (·.1))).wrO (za1 c.w m (kv.toNat*sz+k) (a.eval y).cells.toList) b (if(d&&dx)=true then((c.frz (fz.map (·.1))).G b).O else [])) ⟨rfl,rfl,rfl,rfl,fun t ht=> .inl ht⟩ ?_
      have:=hfin.put (v:=Go.undef) ((SR.undef .nil).mkGd []) o.dst
      rw [zkt];exact this
   ·cases he
  ·cases he
 all_goals (rename_i hl;obtain⟨_,_,_,_,_,hl'⟩:=hrow;first|(rw [hl']at hl;cases hl;done)|exact absurd hl' (hl _ _ _ _ _)|cases he)
end
end Go.Proofs.YtecngjbpbnfegaaGreatDoor
end
section
namespace Go.Proofs.YtecngjbpbnfegaaGreatDoor
open Go.RowKit
def zln (a:Act) (o:Oper):Bool:=match o.op with| .binOp _ _ x _ _=>(match a.eval x with| .slice none _ _=>true|_=>false)|_=>false
section
variable (P:Program) (sg:SgT) (Rt:Nat→List AV→AV→Prop)
def zAf:Prop:= ∀(c:Cx) (n nx:Nat) (sl:Nat→SV) (hp:Nat→Option Ent) (a:Act) (sl0:Nat→SV) (hp0:Nat→Option Ent) (o:Oper) (gs:Gd) (e:Eff) (nv:Nat),Pre P c n nx sl hp a sl0 hp0 o gs→ ¬c.U (nx+999)→zkQ P sg sl0 hp0 nv nx gs o=some e→
 (∀q∈e.chk,q.den c.ρ)→(∀cl,e.call=some cl→ ∃r,c.ρ[nv]?=some r∧zii Rt cl.fn ((EL.of cl.args).den c.ρ) c.ρ r)→(∀x,e.nilq=some x→c.ρ[nv]?=some (.bool (zln a o)))→zbJ P o c n nx sl hp gs a e
def zyf:Prop:= ∀(c:Cx) (n nx:Nat) (sl:Nat→SV) (hp:Nat→Option Ent) (a:Act) (sl0:Nat→SV) (hp0:Nat→Option Ent) (o:Oper) (gs:Gd) (e:Eff) (nv:Nat) (x:E),Pre P c n nx sl hp a sl0 hp0 o gs→zkQ P sg sl0 hp0 nv nx gs o=some e→e.nilq=some x→zln a o=true→x.den c.ρ= .sl []
end
theorem zry {hp:Nat→Option Ent} (l:List (Nat × Ent)) (t:Nat):(zeH hp l t=hp t∧ ∀e,(t,e)∉l)∨ ∃e,(t,e)∈l∧zeH hp l t=some e:=by
 induction l generalizing hp with
 |nil=>exact .inl ⟨rfl,by simp⟩
 |cons p l ih=>
  obtain⟨u,f⟩:=p
  rcases ih (hp:=fun v=>if v=u then some f else hp v)with⟨h1,h2⟩|⟨e,h1,h2⟩
  ·by_cases ht:t=u
   ·subst ht
    refine .inr ⟨f,by simp, ?_⟩
    have:zeH hp ((t,f)::l) t=zeH (fun v=>if v=t then some f else hp v) l t:=rfl
    rw [this,h1];simp
   ·refine .inl ⟨?_,fun e he=> ?_⟩
    ·have:zeH hp ((u,f)::l) t=zeH (fun v=>if v=u then some f else hp v) l t:=rfl
     rw [this,h1,if_neg ht]
    ·rcases List.mem_cons.1 he with he|he
     ·cases he;exact ht rfl
     ·exact h2 e he
  ·exact .inr ⟨e,by simp [h1],h2⟩
section
variable {P:Program} {sg:SgT} {Rt:Nat→List AV→AV→Prop} {c:Cx} {n nx:Nat} {sl:Nat→SV} {hp:Nat→Option Ent} {a:Act} {ops:Array Oper} {o:Oper} {gs:Gd} {e:Eff}
theorem Rel.skip (h:Rel c n sl hp a) (hg: ¬zeF c.ρ gs) {l:List (Nat × Ent)} (hl: ∀t x,(t,x)∈l→nx≤t∧t<nx+zao∧ ∃hs y,x= .gd hs y∧zrV gs hs=true) (hnew: ∀t,nx≤t→t<nx+zao→ ¬c.U t) (s:SV) (d:Option Nat):
  Rel {c with U:=fun t=>c.U t∨(nx≤t∧t<nx+zao)} n (zjh n sl d (mkGd gs s)) (zeH hp l) (a.put d undef):=by
 have hs:SR {c with U:=fun t=>c.U t∨(nx≤t∧t<nx+zao)} [mkGd gs s] [undef]:=by
  cases gs with
  |nil=>exact absurd (zcQ _) hg
  |cons g gs=>exact .gd (fun hh=>absurd hh hg) (fun _=>rfl) .nil
 refine Rel.put ?_ hs d
 refine h.change (fun t=> ∃x,(t,x)∈l) ⟨rfl,fun _ _ hb=>hb,fun _ _ _=>rfl,fun _ _ hk=>⟨hk,rfl⟩,fun _ _ _=>⟨Nat.le_refl _,fun _=>⟨rfl,fun _ _ _=>rfl⟩⟩⟩ ⟨h.base.os,h.base.tape,h.base.output,h.base.size,fun t v hp=>⟨.inl (h.base.pins t v hp).1,(h.base.pins t v hp).2⟩,h.base.block⟩ (fun t ht=> ?_) (fun _ _ _ _=>rfl) (fun t ht=> ?_) ⟨h.gw.nodup,h.gw.disj,h.gw.allow,h.gw.inb⟩ (fun t g hk=> .inl (h.usedK t g hk)) (fun t x hx=> ?_)
 ·exact⟨zhq fun x hx=>ht ⟨x,hx⟩,rfl,rfl,fun g hk=>hk⟩
 ·obtain⟨x,hx⟩:=ht
  rcases zry (hp:=hp) l t with⟨_,h2⟩|⟨x',h1,h2⟩
  ·exact absurd hx (h2 x)
  ·obtain⟨q1,q2,hs,y,rfl,hsub⟩:=hl t x' h1
   have hno: ∀e',¬Res c.ρ (zeH hp l t) e':=by
    rw [h2]
    exact fun e' hr=>hg (zoE hsub hr.1)
   refine⟨fun e' hr=>absurd hr (hno e'),fun _=>h.off t fun e' hr=> ?_⟩
   cases hh:hp t with
   |none=>rw [hh]at hr;exact hr.elim
   |some e9=>exact hnew t q1 q2 (h.usedH t e9 hh)
 ·rcases zry (hp:=hp) l t with⟨h1,_⟩|⟨x',h1,_⟩
  ·rw [h1]at hx;exact .inl (h.usedH t x hx)
  ·obtain⟨q1,q2,_⟩:=hl t x' h1
   exact .inr ⟨q1,q2⟩
def GOK (ρ:List AV) (ops:Array Oper) (o:Oper) (a:Act):Option Gd→Prop
 |none=>Region.wanted o (yielded ops a.tmps)=false
 |some gs=>(zeF ρ gs→Region.wanted o (yielded ops a.tmps)=true)∧(¬zeF ρ gs→Region.wanted o (yielded ops a.tmps)=false)
theorem zpi {σ:St} {r:Option Gd} (hg:zhX σ ops o=some r) (hs: ∀j want d,o.guard=some (j,want)→(ops[j]?).bind (·.dst)=some d→SR c [zaK σ d] [a.tmps.getD d undef]):GOK c.ρ ops o a r:=by
 unfold zhX at hg
 cases hgu:o.guard with
 |none=>
  rw [hgu]at hg
  simp only [Option.some.injEq]at hg;subst hg
  exact⟨fun _=>by simp [Region.wanted,hgu],fun hn=>absurd (zcQ _) hn⟩
 |some jw=>
  obtain⟨j,want⟩:=jw
  rw [hgu]at hg
  simp only at hg
  cases hd:(ops[j]?).bind (·.dst)with
  |none=>
   rw [hd]at hg
   simp only [Option.some.injEq]at hg;subst hg
   simp [GOK,Region.wanted,hgu,yielded,hd]
  |some d=>
   rw [hd]at hg
   simp only at hg
   have hr:=hs j want d hgu hd
   have hw: ∀v,a.tmps.getD d undef=v→Region.wanted o (yielded ops a.tmps)=(match v with| .bool b=>b==want|_=>false):=by
    intro v hv
    simp only [Region.wanted,hgu,yielded,hd,Option.bind_some]
    rw [Array.getD_eq_getD_getElem?]at hv
    cases hq:a.tmps[d]? with
    |none=>rw [hq]at hv;simp at hv;subst hv;simp [undef]
    |some u=>rw [hq]at hv;simp at hv;subst hv;cases u<;>simp
   generalize a.tmps.getD d undef=v at hr hw
   have hw:=hw v rfl
   have hund:v=undef→Region.wanted o (yielded ops a.tmps)=false:=by
    rintro rfl;rw [hw];simp [undef]
   have hread: ∀x f,Rd c.w [v] [x] f→(x= .bool want→Region.wanted o (yielded ops a.tmps)=true)∧(x≠ .bool want→Region.wanted o (yielded ops a.tmps)=false):=by
    intro x f hx
    refine⟨fun h=> ?_,fun h=> ?_⟩
    ·rw [hw,zgG hx h];simp
    ·rw [hw]
     cases v<;>simp only
     rename_i b
     cases hx with
     |bool _=>simpa using fun hh=>h (by rw [hh])
   split at hg
   ·rename_i b hsl
    rw [hsl]at hr
    cases hr with
    |e h1 _ _=>
     simp only [Option.some.injEq]at hg;subst hg
     obtain⟨q1,q2⟩:=hread _ _ h1
     simp only [E.den,AV.bool.injEq]at q1 q2
     split
     ·rename_i hb;simp only [beq_iff_eq]at hb
      exact⟨fun _=>q1 hb,fun hn=>absurd (zcQ _) hn⟩
     ·rename_i hb;simp only [beq_iff_eq]at hb
      exact q2 (by simpa using hb)
   ·rename_i x _ hsl
    rw [hsl]at hr
    cases hr with
    |e h1 _ _=>
     simp only [Option.some.injEq]at hg;subst hg
     obtain⟨q1,q2⟩:=hread _ _ h1
     exact⟨fun hh=>q1 (hh (x,want) (by simp)),fun hn=>q2 fun hh=>hn (by intro g hg;simp at hg;subst hg;exact hh)⟩
   ·rename_i hs' s hsl
    rw [hsl]at hr
    cases hr with
    |gd h1 h2 _=>
     split at hg
     ·rename_i hf
      simp only [Option.some.injEq]at hg;subst hg
      refine hund (h2 fun hk=> ?_)
      simp only [zxd,List.any_eq_true]at hf
      obtain⟨g,hg,hgf⟩:=hf
      have:=hk g hg
      split at hgf
      ·rename_i b hb
       rw [hb]at this
       simp only [E.den,AV.bool.injEq]at this
       simp [this]at hgf
      ·cases hgf
     ·split at hg
      ·rename_i b
       simp only [Option.some.injEq]at hg;subst hg
       by_cases hk:zeF c.ρ hs'
       ·have h1:=h1 hk
        cases h1 with
        |e h1 _ _=>
         obtain⟨q1,q2⟩:=hread _ _ h1
         simp only [E.den,AV.bool.injEq]at q1 q2
         split
         ·rename_i hb;simp only [beq_iff_eq]at hb
          exact⟨fun _=>q1 hb,fun hn=>absurd hk hn⟩
         ·rename_i hb;simp only [beq_iff_eq]at hb
          exact q2 (by simpa using hb)
       ·split
        ·exact⟨fun hh=>absurd hh hk,fun _=>hund (h2 hk)⟩
        ·exact hund (h2 hk)
      ·rename_i x _
       simp only [Option.some.injEq]at hg;subst hg
       by_cases hk:zeF c.ρ hs'
       ·have h1:=h1 hk
        cases h1 with
        |e h1 _ _=>
         obtain⟨q1,q2⟩:=hread _ _ h1
         exact⟨fun hh=>q1 (hh (x,want) (by simp)),fun hn=>q2 fun hh=>hn (by intro g hg;rcases List.mem_cons.1 hg with rfl|hg;exact hh;exact hk g hg)⟩
       ·exact⟨fun hh=>absurd (fun g hg=>hh g (by simp [hg])) hk,fun _=>hund (h2 hk)⟩
      ·cases hg
   ·cases hg
theorem zwv (hop:zAf P sg Rt) {Q:Exit→Act→World→Prop} {K:Act→World→Prop} {i nv:Nat} (hi:ops[i]?=some o) (hrel:Rel c n sl hp a) {sl0:Nat→SV} {hp0:Nat→Option Ent} (hgo:GOK c.ρ ops o a (some gs))
  (hsl: ∀t,Operand.tmp t∈o.op.operands→sl0 t=sl t) (hhp: ∀t e,hp0 t=some e→hp t=some e) (hnew: ∀t,nx≤t→t<nx+zao→ ¬c.U t)
  (he:zkQ P sg sl0 hp0 nv nx gs o=some e) (hent:gs≠ []→ ∀t x,(t,x)∈e.ent→nx≤t∧t<nx+zao∧ ∃hs y,x= .gd hs y∧zrV gs hs=true)
  (hc:zeF c.ρ gs→ ∀q∈e.chk,q.den c.ρ) (hcall: ∀cl,e.call=some cl→ ∃r,c.ρ[nv]?=some r∧(zeF c.ρ gs→zii Rt cl.fn ((EL.of cl.args).den c.ρ) c.ρ r)) (hnq: ∀x,e.nilq=some x→zeF c.ρ gs→c.ρ[nv]?=some (.bool (zln a o)))
  (hK: ∀a' c',zza c c' nx→Rel c' n (zjh n sl o.dst (mkGd gs e.val)) (zeH hp e.ent) a'→K a' c'.w):wpOp P ops Q i K a c.w:=by
 unfold wpOp
 simp only [hi]
 by_cases hg:zeF c.ρ gs
 ·rw [if_pos (hgo.1 hg)]
  exact .inl (hop c n nx sl hp a sl0 hp0 o gs e nv ⟨hrel,hg,hsl,hhp,fun t h1 h2=>hnew t h1 (by simp only [zao];omega)⟩ (hnew _ (by omega) (by simp [zao])) he (hc hg) (fun cl hcl=>by obtain⟨r,h1,h2⟩:=hcall cl hcl;exact⟨r,h1,h2 hg⟩) (fun x hx=>hnq x hx hg) _ _ hK)
 ·rw [if_neg (by rw [hgo.2 hg];simp)]
  have hne:gs≠ []:=by rintro rfl;exact hg (zcQ _)
  exact hK _ {c with U:=fun t=>c.U t∨(nx≤t∧t<nx+zao)} ⟨rfl,rfl,rfl,rfl,fun t ht=>ht⟩ (hrel.skip hg (hent hne) hnew e.val o.dst)
end
end Go.Proofs.YtecngjbpbnfegaaGreatDoor
end
section
namespace Go.Proofs.YtecngjbpbnfegaaGreatDoor
open Go.RowKit
def Cx.ext (c:Cx) (τ:List AV):Cx:={c with ρ:=c.ρ++τ}
theorem zaU {ρ τ:List AV} {x:E} (h:x.sc ρ.length=true):x.den (ρ++τ)=x.den ρ:=by
 have:=E.sc_den ρ τ [] x h
 rw [List.append_nil]at this;exact this
theorem zwX {ρ τ:List AV} {x:EL} (h:x.sc ρ.length=true):x.den (ρ++τ)=x.den ρ:=by
 have:=EL.sc_den ρ τ [] x h
 rw [List.append_nil]at this;exact this
theorem zht {ρ τ:List AV} {gs:Gd} (h:zAm ρ.length gs=true):zeF (ρ++τ) gs↔zeF ρ gs:=by
 simp only [zAm,List.all_eq_true]at h
 exact⟨fun k g hg=>by rw [←zaU (τ:=τ) (h g hg)];exact k g hg,fun k g hg=>by rw [zaU (h g hg)];exact k g hg⟩
theorem SVL.sc_mem {n:Nat}: ∀{cs:SVL},cs.sc n=true→ ∀s∈cs.toList,s.sc n=true
 | .nil,_,s,h=>by simp [SVL.toList]at h
 | .cons s cs,h,u,hu=>by
  simp only [SVL.sc,Bool.and_eq_true]at h
  simp only [SVL.toList,List.mem_cons]at hu
  rcases hu with rfl|hu
  ·exact h.1
  ·exact SVL.sc_mem h.2 u hu
section
variable {c:Cx} {n:Nat} {sl:Nat→SV} {hp:Nat→Option Ent} {a:Act} {τ:List AV}
theorem Cx.ext_ok {b:Nat} (h:c.ok b):(c.ext τ).ok b:=h
theorem znf.ext {t g:Nat} {p:Pth} {v:Value} (hs:(match p with|some q=>q.1.sc c.ρ.length|none=>true)=true) (h:znf c t g p v):znf (c.ext τ) t g p v:=by
 cases p with
 |none=>exact trivial
 |some p=>
  obtain⟨i,z,o⟩:=p
  obtain⟨b,n,cap,C,ty,fz,kk,k,h1,h2,h3,h4,h5⟩:=h
  exact⟨b,n,cap,C,ty,fz,kk,k,h1,h2,h3,by show i.den (c.ρ++τ)=_;rw [zaU hs];exact h4,h5⟩
theorem SR.ext {ss:List SV} {vs:List Value} (h:SR c ss vs):(∀s∈ss,s.sc c.ρ.length=true)→SR (c.ext τ) ss vs:=by
 have tl: ∀{s:SV} {ss:List SV},(∀x∈s::ss,x.sc c.ρ.length=true)→ ∀x∈ss,x.sc c.ρ.length=true:=fun h x hx=>h x (by simp [hx])
 have hd: ∀{s:SV} {ss:List SV},(∀x∈s::ss,x.sc c.ρ.length=true)→s.sc c.ρ.length=true:=fun h=>h _ (by simp)
 have hρ:(c.ext τ).ρ=c.ρ++τ:=rfl
 induction h with
 |nil=>exact fun _=> .nil
 |undef _ ih=>exact fun hs=> .undef (ih (tl hs))
 |e h1 h2 _ ih=>exact fun hs=> .e (by rw [hρ,zaU (hd hs)];exact h1) h2 (ih (tl hs))
 |nils _ ih=>exact fun hs=> .nils (ih (tl hs))
 |emp _ ih=>exact fun hs=> .emp (ih (tl hs))
 |own h1 h2 _ ih=>exact fun hs=> .own h1 h2 (ih (tl hs))
 |bptr h1 h2 _ ih=>exact fun hs=> .bptr h1 h2 (ih (tl hs))
 |rptr h1 h2 h3 h4 h5 _ ih=>exact fun hs=> .rptr h1 h2 (by rw [hρ,zaU (hd hs)];exact h3) h4 h5 (ih (tl hs))
 |eptr h1 h2 h3 h4 h5 h6 _ ih=>
  intro hs
  have:=hd hs
  simp only [SV.sc,Bool.and_eq_true]at this
  exact .eptr (by rw [hρ,zaU this.1];exact h1) h2 (by rw [hρ,zaU this.2];exact h3) h4 h5 (by rw [hρ,zaU this.1];exact h6) (ih (tl hs))
 |pptr h1 h2 _ ih=>exact fun hs=> .pptr (by rw [hρ,zaU (hd hs)];exact h1) h2 (ih (tl hs))
 |agg h9 _ _ ih1 ih2=>exact fun hs=> .agg h9 (ih1 (SVL.sc_mem (hd hs))) (ih2 (tl hs))
 |tup _ _ ih1 ih2=>exact fun hs=> .tup (ih1 (SVL.sc_mem (hd hs))) (ih2 (tl hs))
 |fn _ _ ih1 ih2=>exact fun hs=> .fn (ih1 (SVL.sc_mem (hd hs))) (ih2 (tl hs))
 |gd _ h2 _ ih1 ih2=>
  intro hs
  have:=hd hs
  simp only [SV.sc,Bool.and_eq_true]at this
  exact .gd (fun hg=>ih1 ((zht this.1).1 hg) (by simpa using this.2)) (fun hg=>h2 fun k=>hg ((zht this.1).2 k)) (ih2 (tl hs))
 | @via t g n p x v ss vs h1 h2 h3 _ ih=>
  intro hs
  have:=hd hs
  simp only [SV.sc,Bool.and_eq_true]at this
  refine .via h1 h2 (fun he=> ?_) (ih (tl hs))
  obtain⟨q1,q2⟩:=h3 he
  exact⟨by rw [hρ,zaU this.2];exact q1,znf.ext (τ:=τ) this.1 q2⟩
 | @vptr t g n p x i sz o v ss vs h1 h2 h3 _ ih=>
  intro hs
  have:=hd hs
  simp only [SV.sc,Bool.and_eq_true]at this
  refine .vptr h1 h2 (fun he=> ?_) (ih (tl hs))
  obtain⟨b,off,len,cap,kk,k,q1,q2,q3,q4,q5,q6,q7⟩:=h3 he
  exact⟨b,off,len,cap,kk,k,by rw [hρ,zaU this.1.2];exact q1,znf.ext (τ:=τ) this.1.1 q2,by rw [hρ,zaU this.2];exact q3,q4,q5,by rw [hρ,zaU this.1.2];exact q6,q7⟩
 |wown h1 h2 h3 h4 h5 h6 _ ih=>exact fun hs=> .wown h1 h2 (by rw [hρ,zaU (hd hs)];exact h3) h4 h5 h6 (ih (tl hs))
theorem zkI.ext {t:Nat} {e:Ent} (h:zkI c t e) (hs:e.sc c.ρ.length=true):zkI (c.ext τ) t e:=by
 have hρ:(c.ext τ).ρ=c.ρ++τ:=rfl
 cases e with
 |box ty g cs=>
  obtain⟨b,C,h1,h2,h3,h4,h5,h6,h7⟩:=h
  exact⟨b,C,h1,h2,h3,h4,h5,h6,h7.ext (by simpa [Ent.sc]using hs)⟩
 |row ety sz g x d=>
  obtain⟨h1,h2,N,h3,h4,h5⟩:=h
  exact⟨h1,h2,N,by rw [hρ,zaU hs];exact h3,h4,h5⟩
 |frz g x=>
  obtain⟨h1,⟨f,h2,h3⟩,h4⟩:=h
  exact⟨h1,⟨f,by rw [hρ,zaU hs];exact h2,h3⟩,h4⟩
 |gd gs e=>exact h
 |dead=>exact h
 |deep e z l g ep x=>
  obtain⟨h1,h2,h3,h4,h5⟩:=h
  exact⟨h1,h2,h3,by rw [hρ,zaU hs];exact h4,h5⟩
 |hol e z l g ep x i o u=>
  simp only [Ent.sc,Bool.and_eq_true]at hs
  obtain⟨h1,h2,h3,h4,h5⟩:=h
  exact⟨h1,h2,h3,by rw [hρ,zaU hs.1,zaU hs.2];exact h4,h5⟩
theorem zzH {ρ:List AV} {e0 e:Ent} (hs:e0.sc ρ.length=true):Res (ρ++τ) (some e0) e↔Res ρ (some e0) e:=by
 cases e0 with
 |gd gs x=>
  simp only [Ent.sc,Bool.and_eq_true]at hs
  simp only [Res]
  rw [zht hs.1]
 |_=>simp [Res]
theorem Rel.ext (h:Rel c n sl hp a) (h1: ∀i,(sl i).sc c.ρ.length=true) (h2: ∀t e,hp t=some e→e.sc c.ρ.length=true) (τ:List AV):Rel (c.ext τ) n sl hp a:=by
 have key: ∀t e,Res (c.ρ++τ) (hp t) e↔Res c.ρ (hp t) e:=by
  intro t e
  cases hh:hp t with
  |none=>exact Iff.rfl
  |some e0=>exact zzH (h2 t e0 hh)
 refine⟨h.defers,h.size,⟨h.base.os,h.base.tape,h.base.output,h.base.size,h.base.pins,h.base.block⟩,fun i=>(h.slots i).ext (by simpa using h1 i),fun t e hr=> ?_,fun t hn=>h.off t fun e hr=>hn e ((key t e).2 hr),⟨h.gw.nodup,h.gw.disj,h.gw.allow,h.gw.inb⟩,h.usedK,h.usedH⟩
 have hr':=(key t e).1 hr
 have he:=h.ents t e hr'
 cases hh:hp t with
 |none=>rw [hh]at hr';exact hr'.elim
 |some e0=>
  have hsc:=h2 t e0 hh
  rw [hh]at hr'
  cases e0 with
  |gd gs x=>
   obtain⟨_,rfl⟩:=hr'
   simp only [Ent.sc,Bool.and_eq_true]at hsc
   cases x with
   |gd=>exact he
   |dead=>exact he
   |box=>exact he.ext (by simpa [Ent.sc]using hsc.2)
   |row=>exact he.ext (by simpa [Ent.sc]using hsc.2)
   |frz=>exact he.ext (by simpa [Ent.sc]using hsc.2)
   |deep=>exact he.ext (by simpa [Ent.sc]using hsc.2)
   |hol=>exact he.ext (by simpa [Ent.sc]using hsc.2)
  |_=>
   simp only [Res]at hr'
   subst hr'
   exact he.ext hsc
theorem St.sc_sl {σ:St} (h:σ.sc=true) (i:Nat):(zaK σ i).sc σ.nv=true:=by
 simp only [St.sc,Bool.and_eq_true,List.all_eq_true]at h
 unfold zaK
 cases hi:σ.sl[i]? with
 |none=>simp [SV.sc]
 |some s=>exact h.1 s (List.mem_of_getElem? hi)
theorem St.sc_hp {σ:St} (h:σ.sc=true) (t:Nat) (e:Ent) (he:zat σ.hp t=some e):e.sc σ.nv=true:=by
 simp only [St.sc,Bool.and_eq_true,List.all_eq_true]at h
 exact h.2 _ (zen he)
theorem Cn.sc_app {ρ τ:List AV} {q:Cn} (h:q.sc ρ.length=true):q.den (ρ++τ)↔q.den ρ:=by
 cases q<;>simp only [Cn.sc,Bool.and_eq_true]at h<;>simp only [Cn.den]
 case dfd=>rw [zaU h]
 case agg=>rw [zaU h]
 case cells=>rw [zaU h]
 case inb=>rw [zaU h.1,zaU h.2]
 case inbS=>rw [zaU h.1,zaU h.2]
 case win=>rw [zaU h.1.1,zaU h.1.2,zaU h.2]
 case winS=>rw [zaU h.1.1,zaU h.1.2,zaU h.2]
 case room=>rw [zaU h.1,zaU h.2]
 case roomS=>rw [zaU h.1,zaU h.2]
 case mkroom=>rw [zaU h]
 case nz=>rw [zaU h]
 case nn=>rw [zaU h]
 case isref=>rw [zaU h]
 case issl=>rw [zaU h]
 case flat=>rw [zaU h]
 case flatS=>rw [zaU h]
 case kinds=>rw [zaU h]
theorem zr6:SR c [ztY] [Go.undef]:= .gd (fun hg=>by have:=hg (.bool false,true) (by simp);simp [E.den]at this) (fun _=>rfl) .nil
theorem zs2 {ρ:List AV} {x:E} {b:Bool} {hs:Gd} (hx:x.den ρ= .bool b) (h:zug (x, !b) hs=true): ¬zeF ρ hs:=by
 intro k
 have:=zu0 h k
 simp only at this
 rw [hx]at this
 simp at this
theorem zlE {ρ:List AV} {x:E} {b:Bool} {hs:Gd} (hx:x.den ρ= .bool b):zeF ρ (hs.filter fun h=> !(h.1.beq x&&h.2==b))↔zeF ρ hs:=by
 refine⟨fun k g hg=> ?_,fun k g hg=>k g (List.mem_filter.1 hg).1⟩
 by_cases hh:(g.1.beq x&&g.2==b)=true
 ·simp only [Bool.and_eq_true,beq_iff_eq]at hh
  rw [E.beq_den ρ _ _ hh.1,hx,hh.2]
 ·exact k g (List.mem_filter.2 ⟨hg,by rw [Bool.not_eq_true]at hh;rw [hh];rfl⟩)
theorem SR.mkGd_iff {s:SV} {v:Value} {gs:Gd} (h1:zeF c.ρ gs→SR c [s] [v]) (h2: ¬zeF c.ρ gs→v=Go.undef):SR c [Go.Proofs.YtecngjbpbnfegaaGreatDoor.mkGd gs s] [v]:=by
 cases gs with
 |nil=>exact h1 (zcQ _)
 |cons g gs=>exact .gd h1 h2 .nil
theorem SR.assumed {x:E} {b:Bool} (hx:x.den c.ρ= .bool b) {s:SV} {v:Value} (h:SR c [s] [v]):SR c [assumeS x b s] [v]:=by
 cases s with
 |gd hs s=>
  simp only [Go.Proofs.YtecngjbpbnfegaaGreatDoor.assumeS]
  cases h with
  |gd h1 h2 _=>
   split
   ·rename_i hm
    rw [h2 (zs2 hx hm)];exact zr6
   ·exact SR.mkGd_iff (fun k=>h1 ((zlE hx).1 k)) (fun k=>h2 fun k'=>k ((zlE hx).2 k'))
 |_=>exact h
theorem zxr (f:Ent→Ent) (l:List (Nat × Ent)) (t:Nat):zat (l.map fun(t,e)=>(t,f e)) t=(zat l t).map f:=by
 induction l with
 |nil=>rfl
 |cons p l ih=>
  obtain⟨u,e⟩:=p
  simp only [List.map_cons,zat]
  split
  ·rfl
  ·exact ih
theorem Rel.assumed {x:E} {b:Bool} (hx:x.den c.ρ= .bool b) (h:Rel c n sl hp a):Rel c n (fun i=>assumeS x b (sl i)) (fun t=>(hp t).map (assumeE x b)) a:=by
 have hnone: ∀t,(∀e,Res c.ρ (hp t) e→ ∃gs y,e= .gd gs y∨e= .dead)→(c.G t).top= []∧(c.G t).O= []:=by
  intro t ht
  by_cases hh: ∃e,Res c.ρ (hp t) e
  ·obtain⟨e,he⟩:=hh
   obtain⟨gs,y,rfl|rfl⟩:=ht e he
   ·exact h.ents t _ he
   ·exact h.ents t _ he
  ·exact h.off t fun e he=>hh ⟨e,he⟩
 have cases': ∀t,((∀e,Res c.ρ ((hp t).map (assumeE x b)) e↔Res c.ρ (hp t) e))∨((hp t).map (assumeE x b)=some .dead∧(c.G t).top= []∧(c.G t).O= []):=by
  intro t
  cases hh:hp t with
  |none=>exact .inl fun e=>Iff.rfl
  |some e0=>
   cases e0 with
   |gd hs y=>
    by_cases hm:zug (x, !b) hs=true
    ·refine .inr ⟨by simp [Go.Proofs.YtecngjbpbnfegaaGreatDoor.assumeE,hm],hnone t fun e he=> ?_⟩
     rw [hh]at he
     exact absurd he.1 (zs2 hx hm)
    ·by_cases hy: ∃gs z,y= .gd gs z
     ·obtain⟨gs,z,rfl⟩:=hy
      refine .inr ⟨by simp [Go.Proofs.YtecngjbpbnfegaaGreatDoor.assumeE,hm],hnone t fun e he=> ?_⟩
      rw [hh]at he
      exact⟨gs,z, .inl he.2.symm⟩
     ·refine .inl fun e=> ?_
      have he:assumeE x b (.gd hs y)=zeG (hs.filter fun h=> !(h.1.beq x&&h.2==b)) y:=by
       simp only [Go.Proofs.YtecngjbpbnfegaaGreatDoor.assumeE,hm,Bool.false_eq_true,if_false]
       cases y<;>first|rfl|exact absurd ⟨_,_,rfl⟩ hy
      simp only [Option.map_some,he]
      show _↔zeF c.ρ hs∧y=e
      rw [←zlE hx]
      generalize (hs.filter fun h=> !(h.1.beq x&&h.2==b))=fs
      cases fs with
      |nil=>
       simp only [zeG,zcQ,true_and]
       cases y<;>first|exact absurd ⟨_,_,rfl⟩ hy|exact Iff.rfl
      |cons g fs=>exact Iff.rfl
   |_=>exact .inl fun e=>Iff.rfl
 refine⟨h.defers,h.size,h.base,fun i=>(h.slots i).assumed hx,fun t e hr=> ?_,fun t hn=> ?_,h.gw,h.usedK,fun t e he=> ?_⟩
 ·rcases cases' t with hc|⟨hc,h1,h2⟩
  ·exact h.ents t e ((hc e).1 hr)
  ·rw [hc]at hr
   have:Ent.dead=e:=hr
   subst this
   exact⟨h1,h2⟩
 ·rcases cases' t with hc|⟨hc,h1,h2⟩
  ·exact h.off t fun e he=>hn e ((hc e).2 he)
  ·exact⟨h1,h2⟩
 ·cases hh:hp t with
  |none=>rw [hh]at he;cases he
  |some e0=>exact h.usedH t e0 hh
end
end Go.Proofs.YtecngjbpbnfegaaGreatDoor
end
section
namespace Go.Proofs.YtecngjbpbnfegaaGreatDoor
open Go.RowKit
theorem zzr {a b:Bool} (h:a≠b):a= !b:=by cases a<;>cases b<;>first|rfl|exact absurd rfl h
theorem zkv {σ:St} {d:Option Nat} {s:SV}:zaK (zfy σ d s)=zjh σ.sl.length (zaK σ) d s:=by
 funext i
 cases d with
 |none=>simp [zfy,zjh]
 |some d=>
  simp only [zfy,zaK,zjh,Option.some.injEq,List.getElem?_set]
  by_cases h:d=i
  ·subst h
   by_cases h2:d<σ.sl.length
   ·simp [h2]
   ·simp [h2,List.getElem?_eq_none (Nat.le_of_not_lt h2)]
  ·simp [h]
theorem ziN {σ:St} {d:Option Nat} {s:SV}:(zfy σ d s).sl.length=σ.sl.length:=by cases d<;>simp [zfy]
theorem zku {σ:St} {d:Option Nat} {s:SV}:(zfy σ d s).hp=σ.hp:=by cases d<;>rfl
theorem zky {σ:St} {d:Option Nat} {s:SV}:(zfy σ d s).nv=σ.nv:=by cases d<;>rfl
theorem zwI (l:List (Nat × Ent)) (t:Nat) (e:Ent) (u:Nat):zat (zsx l t e) u=if u=t then some e else zat l u:=by
 induction l with
 |nil=>
  simp only [zsx,zat]
  by_cases h:t=u
  ·simp [h]
  ·rw [if_neg h,if_neg (Ne.symm h)]
 |cons p l ih=>
  obtain⟨v,f⟩:=p
  simp only [zsx]
  split
  ·rename_i hv;subst hv
   simp only [zat]
   by_cases h:v=u
   ·simp [h]
   ·rw [if_neg h,if_neg (Ne.symm h),if_neg h]
  ·rename_i hv
   simp only [zat]
   by_cases h:v=u
   ·subst h;rw [if_pos rfl,if_neg hv,if_pos rfl]
   ·rw [if_neg h,ih,if_neg h]
theorem zrs: ∀(ents:List (Nat × Ent)) (l:List (Nat × Ent)),zat (ents.foldl (fun l (p:Nat × Ent)=>zsx l p.1 p.2) l)=zeH (zat l) ents
 | [],l=>rfl
 |(t,e)::ents,l=>by
  simp only [List.foldl_cons]
  rw [zrs ents]
  have:zat (zsx l t e)=fun u=>if u=t then some e else zat l u:=by funext u;exact zwI l t e u
  rw [this];rfl
section
variable {P:Program} {sg:SgT} {Rt:Nat→List AV→AV→Prop} {ops:Array Oper}
theorem zuN {σ:St} {gs:Gd} {o:Oper} {e:Eff}:zaK (zgL σ gs o e)=zjh σ.sl.length (zaK σ) o.dst (mkGd gs e.val):=by
 rw [←zkv];rfl
theorem zu3 {σ:St} {gs:Gd} {o:Oper} {e:Eff}:zat (zgL σ gs o e).hp=zeH (zat σ.hp) e.ent:=by
 have:(zgL σ gs o e).hp=e.ent.foldl (fun l (p:Nat × Ent)=>zsx l p.1 p.2) σ.hp:=by
  show e.ent.foldl (fun l (p:Nat × Ent)=>zsx l p.1 p.2) (zfy σ o.dst (mkGd gs e.val)).hp=_
  rw [zku]
 rw [this,zrs]
theorem zs4 {σ:St} {gs:Gd} {o:Oper} {e:Eff}:(zgL σ gs o e).sl.length=σ.sl.length:=by
 show(zfy σ o.dst (mkGd gs e.val)).sl.length=_
 rw [ziN]
theorem zrF {σ:St} {gs:Gd} {o:Oper} {e:Eff}:(zgL σ gs o e).nv=if e.call.isSome||e.nilq.isSome then σ.nv+1 else σ.nv:=by
 show(if e.call.isSome||e.nilq.isSome then(zfy σ o.dst (mkGd gs e.val)).nv+1 else(zfy σ o.dst (mkGd gs e.val)).nv)=_
 rw [zky]
theorem zr7 {R:AV→Prop} {gs:Gd} {k:Tr} {L:LK} {js:List JK} {ρ:List AV}: ∀{cs:List Cn},(cs.foldr (fun c k=> .chk gs c k) k:Tr).den Rt R L js ρ→(zeF ρ gs→ ∀q∈cs,q.den ρ)∧k.den Rt R L js ρ
 | [],h=>⟨by simp,h⟩
 |c::cs,h=>by
  obtain⟨h1,h2⟩:=h
  obtain⟨h3,h4⟩:=zr7 h2
  refine⟨fun hg q hq=> ?_,h4⟩
  rcases List.mem_cons.1 hq with rfl|hq
  ·exact h1 hg
  ·exact h3 hg q hq
theorem zu6 {l:List (Nat × Ent)} {R:List Nat} {t:Nat} {e:Ent} (h:zzS l R t=some e):zat l t=some e:=by
 unfold zzS at h
 split at h
 ·exact h
 ·cases h
theorem zrD {f:Nat ⊕ E} {as:EL} {ρ τ:List AV} {r:AV} (h1:(match f with| .inl _=>true| .inr x=>x.sc ρ.length)=true) (h2:as.sc ρ.length=true):zii Rt f (as.den (ρ++τ)) (ρ++τ) r↔zii Rt f (as.den ρ) ρ r:=by
 rw [zwX h2]
 cases f with
 |inl f=>exact Iff.rfl
 |inr x=>simp only [zii];rw [zaU h1]
theorem EL.sc_of {n:Nat}: ∀{l:List E},l.all (E.sc n)=true→(EL.of l).sc n=true
 | [],_=>rfl
 |x::l,h=>by
  simp only [List.all_cons,Bool.and_eq_true]at h
  simp only [EL.of,EL.sc,Bool.and_eq_true]
  exact⟨h.1,EL.sc_of h.2⟩
structure Mid (F:Fix) (c:Cx) (σ:St) (a:Act) (n m:Nat):Prop where
 w0:c.w0=F.w0
 A:c.A=F.A
 Mu:c.Mu=F.Mu
 nv:c.ρ.length=σ.nv
 len:σ.sl.length=n
 U: ∀t,c.U t→t<m
 rel:Rel c n (zaK σ) (zat σ.hp) a
theorem Mid.ext {F:Fix} {c:Cx} {σ:St} {a:Act} {n m:Nat} (h:Mid F c σ a n m) (hs:σ.sc=true) (τ:List AV):Rel (c.ext τ) n (zaK σ) (zat σ.hp) a:=
 h.rel.ext (fun i=>by rw [h.nv];exact St.sc_sl hs i) (fun t e he=>by rw [h.nv];exact St.sc_hp hs t e he) τ
theorem zyS (hop:zAf P sg Rt) (hnil:zyf P sg) {F:Fix} {c:Cx} {σ:St} {a:Act} {n i base:Nat} {o:Oper} {gs:Gd} {e:Eff} {k:Tr} {R:AV→Prop} {L:LK} {js:List JK} {Q:Exit→Act→World→Prop} {K:Act→World→Prop}
  (hi:ops[i]?=some o) (hm:Mid F c σ a n (base+zao*i)) (hgo:GOK c.ρ ops o a (some gs)) {Rs:List Nat} (he:zkQ P sg (zaK σ) (zzS σ.hp Rs) σ.nv (base+zao*i) gs o=some e) (hsc:zue σ.nv (base+zao*i) σ.hp gs e=true)
  (hsc2:(e.call.isSome||e.nilq.isSome)=true→σ.sc=true) (hd:(zlD gs e k).den Rt R L js c.ρ)
  (hK: ∀(c':Cx) (a':Act),c.ρ<+:c'.ρ→Mid F c' (zgL σ gs o e) a' n (base+zao*(i+1))→k.den Rt R L js c'.ρ→K a' c'.w):wpOp P ops Q i K a c.w:=by
 simp only [zue,Bool.and_eq_true,List.all_eq_true]at hsc
 obtain⟨⟨⟨⟨hs1,hs2⟩,hs3⟩,hs4⟩,hs5⟩:=hsc
 have hent:gs≠ []→ ∀t x,(t,x)∈e.ent→base+zao*i≤t∧t<base+zao*i+zao∧ ∃hs y,x= .gd hs y∧zrV gs hs=true:=by
  intro hne t x hx
  have:=hs5 _ hx
  have hem:gs.isEmpty=false:=by cases gs;exact absurd rfl hne;rfl
  simp only [hem,Bool.false_or,Bool.false_and,Bool.or_false,Bool.and_eq_true,decide_eq_true_eq]at this
  refine⟨this.1.1,this.1.2, ?_⟩
  have h3:=this.2
  split at h3
  ·exact⟨_,_,rfl,h3⟩
  ·cases h3
 have hnew: ∀t,base+zao*i≤t→t<base+zao*i+zao→ ¬c.U t:=fun t h1 _ h3=>by have:=hm.U t h3;omega
 have hstep: ∀(τ:List AV),Rel (c.ext τ) n (zaK σ) (zat σ.hp) a→τ.length=(if e.call.isSome||e.nilq.isSome then 1 else 0)→k.den Rt R L js (c.ρ++τ)→(zeF c.ρ gs→ ∀q∈e.chk,q.den c.ρ)→
   (∀cl,e.call=some cl→ ∃r,τ= [r]∧(zeF c.ρ gs→zii Rt cl.fn ((EL.of cl.args).den c.ρ) c.ρ r))→(∀x,e.nilq=some x→τ= [.bool (zln a o)])→wpOp P ops Q i K a c.w:=by
  intro τ hrel hτ hk hc hcall hnq
  have hnv:σ.nv=c.ρ.length:=hm.nv.symm
  rw [hnv]at hs1 hs2 hs3
  have hget: ∀r,τ= [r]→(c.ρ++τ)[σ.nv]?=some r:=by
   rintro r rfl;rw [hnv];simp
  refine zwv (c:=c.ext τ) hop hi hrel ⟨fun hg=>hgo.1 ((zht hs1).1 hg),fun hg=>hgo.2 fun k=>hg ((zht hs1).2 k)⟩ (fun _ _=>rfl) (fun t e h=>zu6 h) hnew he hent (fun hg q hq=> ?_) (fun cl hcl=> ?_) (fun x hx _=>hget _ (hnq x hx)) (fun a' c' hsame hr=> ?_)
  ·exact(Cn.sc_app (hs2 q hq)).2 (hc ((zht hs1).1 hg) q hq)
  ·obtain⟨r,rfl,h2⟩:=hcall cl hcl
   rw [hcl]at hs3
   simp only [Bool.and_eq_true]at hs3
   exact⟨r,hget r rfl,fun hg=>(zrD hs3.1 (EL.sc_of hs3.2)).2 (h2 ((zht hs1).1 hg))⟩
  ·have hρ:c'.ρ=c.ρ++τ:=hsame.ρ
   refine hK c' a' ⟨τ,hρ.symm⟩ ⟨hsame.w0.trans hm.w0,hsame.A.trans hm.A,hsame.Mu.trans hm.Mu, ?_,by rw [zs4];exact hm.len,fun t ht=> ?_, ?_⟩ (by rw [hρ];exact hk)
   ·rw [hρ,zrF,List.length_append,hτ,hnv];split<;>rfl
   ·have hmul:base+zao*(i+1)=base+zao*i+zao:=by rw [Nat.mul_add];omega
    rw [hmul]
    rcases hsame.U t ht with h|h
    ·have:=hm.U t h;omega
    ·exact h.2
   ·rw [zuN,zu3,hm.len];exact hr
 unfold zlD at hd
 obtain⟨hc,hd⟩:=zr7 hd
 cases hcl:e.call with
 |none=>
  simp only [hcl]at hd
  cases hnq:e.nilq with
  |none=>
   simp only [hnq]at hd
   refine hstep [] (by have:=hm.rel;simpa [Cx.ext]using this) (by simp [hcl,hnq]) (by simpa using hd) hc (fun cl h=>by rw [hcl]at h;cases h) (fun x h=>by rw [hnq]at h;cases h)
  |some x=>
   simp only [hnq]at hd
   have hss:=hsc2 (by simp [hnq])
   refine hstep [.bool (zln a o)] (hm.ext hss _) (by simp [hnq]) (hd _ fun hg hb=> ?_) hc (fun cl h=>by rw [hcl]at h;cases h) (fun x h=>rfl)
   exact hnil c n _ _ _ a _ _ o gs e _ x ⟨hm.rel,hg,fun _ _=>rfl,fun t e h=>zu6 h,fun t h1 h2=>hnew t h1 (Nat.lt_of_lt_of_le h2 (Nat.add_le_add_left (by decide) _))⟩ he hnq hb
 |some cl=>
  simp only [hcl]at hd
  cases hnq:e.nilq with
  |some x=>
   rw [hnq]at hs4
   simp [hcl]at hs4
  |none=>
   simp only [hnq]at hd
   obtain⟨r,h1,h2⟩:=hd
   have hss:=hsc2 (by simp [hcl])
   refine hstep [r] (hm.ext hss _) (by simp [hcl]) h2 hc (fun cl' h=>by rw [hcl]at h;cases h;exact⟨r,rfl,h1⟩) (fun x h=>by rw [hnq]at h;cases h)
theorem zwc {σ:St} {x:E} {b:Bool} {d:Nat}:zaK (assume x b d σ)=zjh σ.sl.length (fun i=>assumeS x b (zaK σ i)) (some d) (.e (.bool b)):=by
 funext i
 simp only [assume,zaK,zjh,Option.some.injEq,List.getElem?_set,List.length_map,List.getElem?_map]
 by_cases h:d=i
 ·subst h
  by_cases h2:d<σ.sl.length
  ·simp [h2]
  ·simp [h2,List.getElem?_eq_none (Nat.le_of_not_lt h2),assumeS]
 ·simp only [h,false_and,if_false]
  cases hh:σ.sl[i]?<;>simp [assumeS]
theorem zwY {σ:St} {x:E} {b:Bool} {d:Nat}:zat (assume x b d σ).hp=fun t=>(zat σ.hp t).map (assumeE x b):=by
 funext t;exact zxr _ _ _
theorem Mid.assume {F:Fix} {c:Cx} {σ:St} {a:Act} {n m:Nat} (h:Mid F c σ a n m) {x:E} {b:Bool} (hx:x.den c.ρ= .bool b) {d:Nat} (hd:zaK σ d= .e x):Mid F c (Go.Proofs.YtecngjbpbnfegaaGreatDoor.assume x b d σ) a n m:=by
 refine⟨h.w0,h.A,h.Mu,h.nv, ?_,h.U, ?_⟩
 ·simp only [Go.Proofs.YtecngjbpbnfegaaGreatDoor.assume,List.length_set,List.length_map];exact h.len
 ·rw [zwc,zwY]
  have hr:=h.rel.assumed hx
  refine{hr with slots:=fun i=> ?_}
  unfold zjh
  split
  ·rename_i hi
   obtain⟨hi,_⟩:=hi
   cases hi
   have:=h.rel.slots d
   rw [hd]at this
   generalize a.tmps.getD d Go.undef=v at this
   cases this with
   |e h1 h2 _=>exact .e (f:= []) (by rw [hx]at h1;rw [zgG h1 rfl];exact .bool .nil) (by simp) .nil
  ·exact hr.slots i
theorem zpG (hop:zAf P sg Rt) (hnil:zyf P sg) {F:Fix} {base:Nat} {R:AV→Prop} {L:LK} {js:List JK} {Q:Exit→Act→World→Prop} {n:Nat}: ∀(len i:Nat) (lg:List Log) (σ:St) (t:Tr),i+len=ops.size→zoi P sg ops false base (List.range' i len) lg σ=some t→
  ∀(c:Cx) (a:Act),Mid F c σ a n (base+zao*i)→t.den Rt R L js c.ρ→(∀(c':Cx) (a':Act) (σ':St),c.ρ<+:c'.ρ→L js .normal σ' c'.ρ→zvt F c'.ρ σ' a' c'.w→Q .normal a' c'.w)→wpOps P ops Q (List.range' i len) a c.w
 |0,i,lg,σ,t,hl,ht,c,a,hm,hd,hq=>by
  simp only [List.range'_zero,zoi,Bool.false_and,Bool.false_eq_true,if_false,Option.some.injEq]at ht ⊢
  subst ht
  refine hq c a _ (List.prefix_refl _) hd ⟨c,rfl,rfl,hm.w0,hm.A,hm.Mu,hm.nv,fun t ht=> ?_, ?_⟩
  ·have:=hm.U t ht
   have h9:i=ops.size:=by omega
   subst h9;exact this
  ·have:=hm.rel
   rw [←hm.len]at this;exact this
 |len+1,i,lg,σ,t,hl,ht,c,a,hm,hd,hq=>by
  rw [List.range'_succ]at ht ⊢
  rw [wpOps_cons]
  unfold zoi at ht
  obtain⟨o,hi⟩: ∃o,ops[i]?=some o:=⟨ops[i]'(by omega),by simp [show i<ops.size by omega]⟩
  rw [hi]at ht
  simp only at ht
  have hnext:base+zao*i≤base+zao*(i+1):=by rw [Nat.mul_add];omega
  cases hgu:zhX σ ops o with
  |none=>rw [hgu]at ht;cases ht
  |some r=>
   have hgo:=zpi (c:=c) (a:=a) hgu (fun j want d _ _=>hm.rel.slots d)
   rw [hgu]at ht
   cases r with
   |none=>
    simp only at ht
    unfold wpOp
    simp only [hi]
    rw [if_neg (by simp [show Region.wanted o (yielded ops a.tmps)=false from hgo])]
    refine zpG hop hnil (n:=n) len (i+1) lg _ t (by omega) ht c _ ⟨hm.w0,hm.A,hm.Mu,by rw [zky];exact hm.nv,by rw [ziN];exact hm.len,fun t ht=>Nat.lt_of_lt_of_le (hm.U t ht) hnext, ?_⟩ hd hq
    rw [zkv,zku,hm.len]
    exact hm.rel.put zr6 o.dst
   |some gs=>
    simp only at ht
    split at ht
    ·rename_i e he
     split at ht
     ·cases ht
     ·rename_i hcond
      split at ht
      ·cases ht
      ·rename_i k hk
       simp only [Option.some.injEq]at ht;subst ht
       simp only [Bool.false_and,Bool.false_or,Bool.not_false,Bool.true_and,Bool.or_eq_true,Bool.not_eq_true',Bool.and_eq_true,not_or,Bool.not_eq_false]at hcond
       refine zyS hop hnil hi hm hgo he hcond.1 (fun hh=> ?_) hd fun c' a' hp hm' hk'=>zpG hop hnil (n:=n) len (i+1) _ _ k (by omega) hk c' a' hm' hk' fun c'' a'' σ' hp'=>hq c'' a'' σ' (hp.trans hp')
       have:=hcond.2
       simp only [Bool.or_eq_true]at hh
       simpa [hh]using this
    ·split at ht
     ·rename_i x b d _ hd0 hno
      by_cases hslot:(!isE (zaK σ d))=true
      ·rw [if_pos hslot]at ht;cases ht
      ·rw [if_neg hslot]at ht
       have hgd:zaK σ d= .e x:=by
        obtain⟨⟨j,want⟩,hj,hjd⟩:=Option.bind_eq_some_iff.1 hd0
        unfold zhX at hgu
        rw [hj]at hgu
        simp only at hgu hjd
        rw [hjd]at hgu
        simp only at hgu
        split at hgu
        ·rename_i b' hb'
         simp only [Option.some.injEq]at hgu
         split at hgu<;>simp at hgu
        ·rename_i y _ hy
         simp only [Option.some.injEq,List.cons.injEq,Prod.mk.injEq,and_true]at hgu
         rw [hy,hgu.1]
        ·rename_i hs' s' hs
         rw [hs]at hslot;simp [isE]at hslot
        ·cases hgu
       split at ht
       ·cases ht
       ·rename_i e he
        split at ht
        ·cases ht
        ·rename_i hcond
         split at ht
         ·rename_i k1 k0 hk1 hk0
          simp only [Bool.or_eq_true,Bool.not_eq_true',Bool.and_eq_true,not_or,Bool.not_eq_false]at hcond
          obtain⟨tt,hx,hden⟩: ∃tt,x.den c.ρ= .bool tt∧(tt=b→(zlD [] e k1).den Rt R L js c.ρ)∧(tt= !b→k0.den Rt R L js c.ρ):=by
           simp only [Option.some.injEq]at ht
           split at ht<;>subst ht<;>obtain⟨tt,h1,h2,h3⟩:=hd<;>rename_i hb
           ·exact⟨tt,h1,fun h=>h2 (h.trans hb),fun h=>h3 (by rw [h,hb];rfl)⟩
           ·exact⟨tt,h1,fun h=>h3 (by rw [h];simpa using hb),fun h=>h2 (by rw [h];simpa using hb)⟩
          by_cases htt:tt=b
          ·subst htt
           refine zyS hop hnil hi (hm.assume hx hgd) ⟨fun _=>hgo.1 (by intro g hg;simp at hg;subst hg;exact hx),fun hn=>absurd (zcQ _) hn⟩ he hcond.1.1 (fun hh=> ?_) (hden.1 rfl) fun c' a' hp hm' hk'=>zpG hop hnil (n:=n) len (i+1) _ _ k1 (by omega) hk1 c' a' hm' hk' fun c'' a'' σ' hp'=>hq c'' a'' σ' (hp.trans hp')
           have:=hcond.2
           simp only [Bool.or_eq_true]at hh
           simpa [hh]using this
          ·have hnb:tt= !b:=zzr htt
           have hx':x.den c.ρ= .bool (!b):=by rw [hx,hnb]
           unfold wpOp
           simp only [hi]
           rw [if_neg (by
            rw [hgo.2 fun hh=> ?_];simp
            have:=hh (x,b) (by simp)
            simp only at this
            rw [hx]at this
            simp at this;exact htt this)]
           have hm0:=hm.assume hx' hgd
           refine zpG hop hnil (n:=n) len (i+1) lg _ k0 (by omega) hk0 c _ ⟨hm.w0,hm.A,hm.Mu,by rw [zky];exact hm.nv,by rw [ziN];exact hm0.len,fun t ht=>Nat.lt_of_lt_of_le (hm.U t ht) hnext, ?_⟩ (hden.2 hnb) hq
           rw [zkv,zku,hm0.len]
           exact hm0.rel.put zr6 o.dst
         ·cases ht
     ·cases ht
end
end Go.Proofs.YtecngjbpbnfegaaGreatDoor
end
section
namespace Go.Proofs.YtecngjbpbnfegaaGreatDoor
open Go.RowKit
def zzN (l:List Oper) (bs:List Nat):Prop:=bs.length=l.length∧ ∀(j:Nat) (o:Oper),l[j]?=some o→ ∀i,((bs[j]?).getD 0).testBit i=true→ ∃e∈o.after.toList,Region.binds .any e=true∧(i=e.on∨(e.on<j∧((bs[e.on]?).getD 0).testBit i=true))
theorem znP (acc:List Nat) (i:Nat): ∀(es:List Edge) (s:Nat),(es.foldl (fun s e=>if Region.binds .any e then s|||2^e.on|||(acc[e.on]?).getD 0 else s) s).testBit i=true→
  s.testBit i=true∨ ∃e∈es,Region.binds .any e=true∧(i=e.on∨((acc[e.on]?).getD 0).testBit i=true)
 | [],s,h=> .inl h
 |e::es,s,h=>by
  simp only [List.foldl_cons]at h
  rcases znP acc i es _ h with h|⟨e',h1,h2⟩
  ·split at h
   ·rename_i hb
    simp only [Nat.testBit_or,Nat.testBit_two_pow,Bool.or_eq_true,decide_eq_true_eq]at h
    rcases h with(h|h)|h
    ·exact .inl h
    ·exact .inr ⟨e,by simp,hb, .inl h.symm⟩
    ·exact .inr ⟨e,by simp,hb, .inr h⟩
   ·exact .inl h
  ·exact .inr ⟨e',by simp [h1],h2⟩
theorem ztO: ∀(os pre:List Oper) (acc:List Nat),zzN pre acc→zzN (pre++os) (zxJ os acc)
 | [],pre,acc,h=>by simpa [zxJ]using h
 |o::os,pre,acc,h=>by
  obtain⟨hl,hb⟩:=h
  have:=ztO os (pre++ [o]) (acc++ [zt1 acc o]) ⟨by simp [hl],fun j o' ho i hi=> ?_⟩
  ·simpa [zxJ]using this
  ·have hlt: ∀k,k<acc.length→((acc++ [zt1 acc o])[k]?).getD 0=(acc[k]?).getD 0:=fun k hk=>by rw [List.getElem?_append_left hk]
   by_cases hj:j<pre.length
   ·rw [List.getElem?_append_left hj]at ho
    rw [hlt j (by omega)]at hi
    obtain⟨e,h1,h2,h3⟩:=hb j o' ho i hi
    exact⟨e,h1,h2,h3.imp id fun h=>⟨h.1,by rw [hlt _ (by omega)];exact h.2⟩⟩
   ·rw [List.getElem?_append_right (by omega)]at ho
    have hj0:j-pre.length=0:=by
     cases hh:j-pre.length with
     |zero=>rfl
     |succ k=>rw [hh]at ho;simp at ho
    rw [hj0]at ho
    simp at ho;subst ho
    have hj':j=acc.length:=by omega
    rw [hj',List.getElem?_append_right (Nat.le_refl _)]at hi
    simp only [Nat.sub_self,List.getElem?_cons_zero,Option.getD_some]at hi
    rcases znP acc i _ 0 hi with h|⟨e,h1,h2,h3⟩
    ·simp at h
    ·refine⟨e,h1,h2,h3.imp id fun h=> ?_⟩
     have he:e.on<acc.length:=by
      rcases Nat.lt_or_ge e.on acc.length with hh|hh
      ·exact hh
      ·rw [List.getElem?_eq_none hh]at h;simp at h
     exact⟨by omega,by rw [hlt _ he];exact h⟩
def zs9 (ops:Array Oper) (S:Nat→Bool):Prop:= ∀k o,S k=true→ops[k]?=some o→ ∀e∈o.after.toList,Region.binds .any e=true→S e.on=true
theorem zAK (ops:Array Oper):zzN ops.toList (zxJ ops.toList []):=by
 have:=ztO ops.toList [] [] ⟨rfl,by simp⟩
 simpa using this
theorem zrh {ops:Array Oper} {S:Nat→Bool} (hS:zs9 ops S): ∀(k:Nat) (i:Nat),S k=true→k<ops.size→(((zxJ ops.toList [])[k]?).getD 0).testBit i=true→S i=true:=by
 intro k
 induction k using Nat.strongRecOn with
 |_ k ih=>
  intro i hk hlt hb
  have ho:ops.toList[k]?=some ops[k]:=by simp [hlt]
  obtain⟨e,h1,h2,h3⟩:=(zAK ops).2 k _ ho i hb
  have hon:=hS k ops[k] hk (by simp [hlt]) e h1 h2
  rcases h3 with rfl|⟨h3,h4⟩
  ·exact hon
  ·exact ih e.on h3 i hon (by omega) h4
theorem zwu {ops:Array Oper} {S:Nat→Bool} (hS:zs9 ops S) {j i:Nat} {o:Oper} (ho:ops[j]?=some o) (hr: ∀e∈o.after.toList,Region.binds .any e=true→S e.on=true) (hb:(((zxJ ops.toList [])[j]?).getD 0).testBit i=true):S i=true:=by
 have hlt:j<ops.size:=(Array.getElem?_eq_some_iff.1 ho).1
 obtain⟨e,h1,h2,h3⟩:=(zAK ops).2 j o (by simpa using ho) i hb
 have hon:=hr e h1 h2
 rcases h3 with rfl|⟨h3,h4⟩
 ·exact hon
 ·exact zrh hS e.on i hon (by omega) h4
theorem zxp {ops:Array Oper} {S:Nat→Bool} (hS:zs9 ops S) {j i:Nat} {o:Oper} (ho:ops[j]?=some o) (hi:i<ops.size) (hj:S j=false) (hr: ∀e∈o.after.toList,Region.binds .any e=true→S e.on=true) (hne:i≠j) (hord:ordB (zxJ ops.toList []) i j=true):S i=decide (i<j):=by
 unfold ordB at hord
 split at hord
 ·rename_i h
  rw [zwu hS ho hr hord];simp [h]
 ·rename_i h
  cases hs:S i with
  |false=>simp [h]
  |true=>
   have:=zrh hS i j hs hi hord
   rw [hj]at this;cases this
theorem zAi {bs:List Nat} {i j:Nat} (h:i≠j):ordB bs i j=ordB bs j i:=by
 unfold ordB
 by_cases h1:i<j
 ·rw [if_pos h1,if_neg (by omega)]
 ·rw [if_neg h1,if_pos (by omega)]
structure Rec where
 i:Nat
 o:Oper
 σ:St
 r:Option (Gd × Eff)
def Rec.next (x:Rec):St:=match x.r with|none=>zfy x.σ x.o.dst ztY|some (gs,e)=>zgL x.σ gs x.o e
def Rec.val (x:Rec):SV:=match x.r with|none=>ztY|some (gs,e)=>mkGd gs e.val
def Rec.ent (x:Rec):List (Nat × Ent):=match x.r with|none=> []|some (_,e)=>e.ent
def zA4 (P:Program) (sg:SgT) (Rt:Nat→List AV→AV→Prop) (ops:Array Oper) (base:Nat) (ρ:List AV) (x:Rec):Prop:=
 ops[x.i]?=some x.o∧match x.r with
  |none=>zhX x.σ ops x.o=some none
  |some (gs,e)=>zhX x.σ ops x.o=some (some gs)∧zkQ P sg (zaK x.σ) (zzS x.σ.hp (znq x.σ gs x.o)) x.σ.nv (base+zao*x.i) gs x.o=some e∧e.nilq=none∧zue x.σ.nv (base+zao*x.i) x.σ.hp gs e=true∧
   (zeF ρ gs→ ∀q∈e.chk,q.den ρ)∧ ∀cl,e.call=some cl→ ∃r,ρ[x.σ.nv]?=some r∧(zeF ρ gs→zii Rt cl.fn ((EL.of cl.args).den ρ) ρ r)
def zgV:Nat→St→List Rec→St→Prop
 |_,σ, [],σ'=>σ=σ'
 |i,σ,x::xs,σ'=>x.i=i∧x.σ=σ∧zgV (i+1) x.next xs σ'
def Rec.log (x:Rec):Option Log:=x.r.map fun(gs,e)=>⟨x.i,znq x.σ gs x.o,e.ent.map (·.1)⟩
theorem zqb {P:Program} {sg:SgT} {Rt:Nat→List AV→AV→Prop} {ops:Array Oper} {base:Nat} {R:AV→Prop} {L:LK} {js:List JK}: ∀(len i:Nat) (lg:List Log) (σ:St) (t:Tr) (ρ:List AV),i+len=ops.size→
  zoi P sg ops true base (List.range' i len) lg σ=some t→t.den Rt R L js ρ→ρ.length=σ.nv→
  ∃(τ:List AV) (xs:List Rec) (σ':St) (lg':List Log),zgV i σ xs σ'∧xs.length=len∧(∀x∈xs,zA4 P sg Rt ops base (ρ++τ) x)∧(ρ++τ).length=σ'.nv∧L js .normal {σ' with nx:=base+zao*ops.size} (ρ++τ)∧zuF ops lg'=true∧(∀y∈lg,y∈lg')∧ ∀x∈xs,∀y,x.log=some y→y∈lg'
 |0,i,lg,σ,t,ρ,hl,ht,hd,hn=>by
  simp only [List.range'_zero,zoi,Bool.true_and]at ht
  split at ht
  ·cases ht
  ·rename_i hdr
   simp only [Option.some.injEq]at ht;subst ht
   exact⟨[], [],σ,lg,rfl,rfl,by simp,by simpa using hn,by simpa [Tr.den]using hd,by simpa using hdr,fun y hy=>hy,by simp⟩
 |len+1,i,lg,σ,t,ρ,hl,ht,hd,hn=>by
  rw [List.range'_succ]at ht
  unfold zoi at ht
  obtain⟨o,hi⟩: ∃o,ops[i]?=some o:=⟨ops[i]'(by omega),by simp [show i<ops.size by omega]⟩
  rw [hi]at ht
  simp only at ht
  cases hgu:zhX σ ops o with
  |none=>rw [hgu]at ht;cases ht
  |some r=>
   rw [hgu]at ht
   cases r with
   |none=>
    simp only at ht
    obtain⟨τ,xs,σ',lg',h1,h2,h3,h4,h5,h6,h7,h8⟩:=zqb len (i+1) lg _ t ρ (by omega) ht hd (by rw [zky];exact hn)
    refine⟨τ,⟨i,o,σ,none⟩::xs,σ',lg',⟨rfl,rfl,h1⟩,by simp [h2],fun x hx=> ?_,h4,h5,h6,h7,fun x hx y hy=> ?_⟩
    ·rcases List.mem_cons.1 hx with rfl|hx
     ·exact⟨hi,hgu⟩
     ·exact h3 x hx
    ·rcases List.mem_cons.1 hx with rfl|hx
     ·simp [Rec.log]at hy
     ·exact h8 x hx y hy
   |some gs=>
    simp only at ht
    split at ht
    ·rename_i e he
     split at ht
     ·cases ht
     ·rename_i hcond
      simp only [Bool.true_and,Bool.not_true,Bool.false_and,Bool.or_false,Bool.or_eq_true,Bool.not_eq_true',not_or,Bool.not_eq_false]at hcond
      have hnq:e.nilq=none:=by cases hh:e.nilq with|none=>rfl|some x=>rw [hh]at hcond;simp at hcond
      split at ht
      ·cases ht
      ·rename_i k hk
       simp only [Option.some.injEq]at ht;subst ht
       have hsc:=hcond.2
       simp only [zue,Bool.and_eq_true,List.all_eq_true]at hsc
       obtain⟨⟨⟨⟨hs1,hs2⟩,hs3⟩,_⟩,_⟩:=hsc
       rw [←hn]at hs1 hs2 hs3
       unfold zlD at hd
       obtain⟨hc,hd⟩:=zr7 hd
       simp only [hnq]at hd
       obtain⟨τ0,hτ0,hcall,hk'⟩: ∃τ0:List AV,(ρ++τ0).length=(zgL σ gs o e).nv∧(∀cl,e.call=some cl→ ∃r,τ0= [r]∧(zeF ρ gs→zii Rt cl.fn ((EL.of cl.args).den ρ) ρ r))∧k.den Rt R L js (ρ++τ0):=by
        cases hcl:e.call with
        |none=>
         rw [hcl]at hd
         exact⟨[],by rw [zrF];simp [hcl,hnq,hn],by simp,by simpa using hd⟩
        |some cl=>
         rw [hcl]at hd
         obtain⟨r,h1,h2⟩:=hd
         exact⟨[r],by rw [zrF];simp [hcl,hn],fun cl' h=>by cases h;exact⟨r,rfl,h1⟩,h2⟩
       obtain⟨τ,xs,σ',lg',h1,h2,h3,h4,h5,h6,h7,h8⟩:=zqb len (i+1) _ _ k (ρ++τ0) (by omega) hk hk' hτ0
       have hass:ρ++τ0++τ=ρ++(τ0++τ):=List.append_assoc ..
       rw [hass]at h3 h4 h5
       refine⟨τ0++τ,⟨i,o,σ,some (gs,e)⟩::xs,σ',lg',⟨rfl,rfl,h1⟩,by simp [h2],fun x hx=> ?_,h4,h5,h6,fun y hy=>h7 y (by simp [hy]),fun x hx y hy=> ?_⟩
       ·rcases List.mem_cons.1 hx with rfl|hx
        ·refine⟨hi,hgu,he,hnq,hcond.2,fun hg q hq=>(Cn.sc_app (hs2 q hq)).2 (hc ((zht hs1).1 hg) q hq),fun cl hcl=> ?_⟩
         obtain⟨r,hr,h2⟩:=hcall cl hcl
         rw [hcl]at hs3
         simp only [Bool.and_eq_true]at hs3
         subst hr
         exact⟨r,by simp only;rw [←hn];simp,fun hg=>(zrD hs3.1 (EL.sc_of (by simpa using hs3.2))).2 (h2 ((zht hs1).1 hg))⟩
        ·exact h3 x hx
       ·rcases List.mem_cons.1 hx with rfl|hx
        ·simp only [Rec.log,Option.map_some,Option.some.injEq]at hy
         subst hy
         exact h7 _ (by simp)
        ·exact h8 x hx y hy
    ·cases ht
end Go.Proofs.YtecngjbpbnfegaaGreatDoor
end
section
namespace Go.Proofs.YtecngjbpbnfegaaGreatDoor
open Go.RowKit
def slF (n:Nat) (sl0:Nat→SV) (xs:List Rec) (S:Nat→Bool):Nat→SV:=xs.foldl (fun sl x=>if S x.i then zjh n sl x.o.dst x.val else sl) sl0
def hpF (hp0:Nat→Option Ent) (xs:List Rec) (S:Nat→Bool):Nat→Option Ent:=xs.foldl (fun hp x=>if S x.i then zeH hp x.ent else hp) hp0
section
variable {n:Nat} {S S':Nat→Bool} {d t:Nat}
theorem zjQ: ∀(xs:List Rec) {sl sl':Nat→SV},sl d=sl' d→(∀x∈xs,x.o.dst=some d→S x.i=S' x.i)→slF n sl xs S d=slF n sl' xs S' d
 | [],_,_,h,_=>h
 |x::xs,sl,sl',h,hs=>by
  refine zjQ xs (sl:=if S x.i then zjh n sl x.o.dst x.val else sl) (sl':=if S' x.i then zjh n sl' x.o.dst x.val else sl') ?_ fun y hy=>hs y (by simp [hy])
  by_cases hd:x.o.dst=some d
  ·rw [←hs x (by simp) hd]
   split
   ·simp only [zjh,hd,true_and];rw [h]
   ·exact h
  ·have hu: ∀sl:Nat→SV,zjh n sl x.o.dst x.val d=sl d:=fun sl=>by simp [zjh,hd]
   have h1:(if S x.i then zjh n sl x.o.dst x.val else sl) d=sl d:=by split;exact hu sl;rfl
   have h2:(if S' x.i then zjh n sl' x.o.dst x.val else sl') d=sl' d:=by split;exact hu sl';rfl
   rw [h1,h2,h]
theorem zrL (xs:List Rec) {sl:Nat→SV} (hs: ∀x∈xs,x.o.dst=some d→S x.i=false):slF n sl xs S d=sl d:=by
 have h1:=zjQ (n:=n) (S:=S) (S':=fun _=>false) xs (sl:=sl) (sl':=sl) (d:=d) rfl hs
 rw [h1]
 clear h1 hs
 induction xs generalizing sl with
 |nil=>rfl
 |cons x xs ih=>exact ih
theorem zw7 (hd:n≤d): ∀(xs:List Rec) {sl:Nat→SV},slF n sl xs S d=sl d
 | [],_=>rfl
 |x::xs,sl=>by
  have:=zw7 hd xs (sl:=if S x.i then zjh n sl x.o.dst x.val else sl)
  refine Eq.trans this ?_
  split
  ·simp only [zjh];rw [if_neg (by omega)]
  ·rfl
theorem zyP {y:Rec} (hd:d<n) (hy:y.o.dst=some d) (hS:S y.i=true): ∀(xs:List Rec) {sl:Nat→SV},y∈xs→(∀x∈xs,x≠y→x.o.dst≠some d)→slF n sl xs S d=y.val
 | [],_,h,_=>by simp at h
 |x::xs,sl,h,hu=>by
  by_cases hm:y∈xs
  ·exact zyP hd hy hS xs (sl:=if S x.i then zjh n sl x.o.dst x.val else sl) hm fun z hz=>hu z (by simp [hz])
  ·have hx:y=x:=by rcases List.mem_cons.1 h with h|h;exact h;exact absurd h hm
   subst hx
   have:=zrL (n:=n) (S:=S) (d:=d) xs (sl:=zjh n sl y.o.dst y.val) (fun z hz hz'=>absurd hz' (hu z (by simp [hz]) (fun hh=>hm (hh▸hz))))
   show slF n (if S y.i then zjh n sl y.o.dst y.val else sl) xs S d=_
   rw [if_pos hS,this]
   simp [zjh,hy,hd]
theorem zrn {hp hp':Nat→Option Ent} {l:List (Nat × Ent)} (h:hp t=hp' t):zeH hp l t=zeH hp' l t:=by
 induction l generalizing hp hp' with
 |nil=>exact h
 |cons p l ih=>
  refine ih ?_
  show(if t=p.1 then some p.2 else hp t)=(if t=p.1 then some p.2 else hp' t)
  rw [h]
theorem zvs {hp hp':Nat→Option Ent} {l:List (Nat × Ent)} (h:t∈l.map (·.1)):zeH hp l t=zeH hp' l t:=by
 induction l generalizing hp hp' with
 |nil=>simp at h
 |cons p l ih=>
  by_cases hm:t∈l.map (·.1)
  ·exact ih hm
  ·have ht:t=p.1:=by simp only [List.map_cons,List.mem_cons]at h;exact h.resolve_right hm
   refine zrn (l:=l) ?_
   show(if t=p.1 then some p.2 else hp t)=(if t=p.1 then some p.2 else hp' t)
   rw [if_pos ht,if_pos ht]
theorem zsa {hp:Nat→Option Ent} {l:List (Nat × Ent)} (h:t∉l.map (·.1)):zeH hp l t=hp t:=
 zhq fun e he=>h (List.mem_map.2 ⟨_,he,rfl⟩)
theorem zjP: ∀(xs:List Rec) {hp hp':Nat→Option Ent},hp t=hp' t→(∀x∈xs,t∈x.ent.map (·.1)→S x.i=S' x.i)→hpF hp xs S t=hpF hp' xs S' t
 | [],_,_,h,_=>h
 |x::xs,hp,hp',h,hs=>by
  refine zjP xs (hp:=if S x.i then zeH hp x.ent else hp) (hp':=if S' x.i then zeH hp' x.ent else hp') ?_ fun y hy=>hs y (by simp [hy])
  by_cases hd:t∈x.ent.map (·.1)
  ·rw [←hs x (by simp) hd]
   split
   ·exact zrn h
   ·exact h
  ·have h1:(if S x.i then zeH hp x.ent else hp) t=hp t:=by split;exact zsa hd;rfl
   have h2:(if S' x.i then zeH hp' x.ent else hp') t=hp' t:=by split;exact zsa hd;rfl
   rw [h1,h2,h]
theorem zrO (xs:List Rec) {hp:Nat→Option Ent} (hs: ∀x∈xs,t∈x.ent.map (·.1)→S x.i=false):hpF hp xs S t=hp t:=by
 have h1:=zjP (S:=S) (S':=fun _=>false) xs (hp:=hp) (hp':=hp) (t:=t) rfl hs
 rw [h1]
 clear h1 hs
 induction xs generalizing hp with
 |nil=>rfl
 |cons x xs ih=>exact ih
end
section
variable {n:Nat} {S:Nat→Bool} {d t:Nat}
theorem Rec.next_sl (x:Rec):zaK x.next=zjh x.σ.sl.length (zaK x.σ) x.o.dst x.val:=by
 obtain⟨i,o,σ,r⟩:=x
 cases r with
 |none=>exact zkv
 |some ge=>exact zuN
theorem Rec.next_hp (x:Rec):zat x.next.hp=zeH (zat x.σ.hp) x.ent:=by
 obtain⟨i,o,σ,r⟩:=x
 cases r with
 |none=>simp only [Rec.next,Rec.ent,zku];rfl
 |some ge=>exact zu3
theorem Rec.next_len (x:Rec):x.next.sl.length=x.σ.sl.length:=by
 obtain⟨i,o,σ,r⟩:=x
 cases r with
 |none=>exact ziN
 |some ge=>exact zs4
theorem zgV.range: ∀{xs:List Rec} {i:Nat} {σ σ':St},zgV i σ xs σ'→ ∀x∈xs,i≤x.i∧x.i<i+xs.length
 | [],_,_,_,_,x,hx=>by simp at hx
 |y::xs,i,σ,σ',h,x,hx=>by
  rcases List.mem_cons.1 hx with rfl|hx
  ·have:=h.1;simp only [List.length_cons];omega
  ·have:=zgV.range h.2.2 x hx;simp only [List.length_cons];omega
theorem zgV.ex: ∀{xs:List Rec} {i:Nat} {σ σ':St},zgV i σ xs σ'→ ∀j,i≤j→j<i+xs.length→ ∃x∈xs,x.i=j
 | [],i,_,_,_,j,h1,h2=>by simp at h2;omega
 |y::xs,i,σ,σ',h,j,h1,h2=>by
  by_cases hj:j=i
  ·exact⟨y,by simp,by rw [hj];exact h.1⟩
  ·simp only [List.length_cons]at h2
   obtain⟨x,hx,he⟩:=zgV.ex h.2.2 j (by omega) (by omega)
   exact⟨x,by simp [hx],he⟩
theorem zgV.inj: ∀{xs:List Rec} {i:Nat} {σ σ':St},zgV i σ xs σ'→ ∀x∈xs,∀y∈xs,x.i=y.i→x=y
 | [],_,_,_,_,x,hx,_,_,_=>by simp at hx
 |z::xs,i,σ,σ',h,x,hx,y,hy,he=>by
  have hz:=h.1
  rcases List.mem_cons.1 hx with h1|h1<;>rcases List.mem_cons.1 hy with h2|h2
  ·rw [h1,h2]
  ·subst h1;have:=(zgV.range h.2.2 y h2).1;omega
  ·subst h2;have:=(zgV.range h.2.2 x h1).1;omega
  ·exact zgV.inj h.2.2 x h1 y h2 he
theorem zgV.sl: ∀{xs:List Rec} {i:Nat} {σ σ':St},zgV i σ xs σ'→σ.sl.length=n→(∀x∈xs,x.σ.sl.length=n∧ ∀d,zaK x.σ d=slF n (zaK σ) xs (fun k=>decide (k<x.i)) d)∧σ'.sl.length=n∧zaK σ'=slF n (zaK σ) xs fun _=>true
 | [],i,σ,σ',h,hn=>by
  have h:σ=σ':=h
  subst h
  exact⟨by simp,hn,rfl⟩
 |y::xs,i,σ,σ',h,hn=>by
  obtain⟨h1,h2,h3⟩:=h
  subst h2
  obtain⟨q1,q2,q3⟩:=zgV.sl h3 (by rw [y.next_len];exact hn)
  rw [y.next_sl,hn]at q1 q3
  refine⟨fun x hx=> ?_,q2,q3⟩
  rcases List.mem_cons.1 hx with rfl|hx
  ·refine⟨hn,fun d=>(zrL _ fun z hz _=> ?_).symm⟩
   rcases List.mem_cons.1 hz with rfl|hz
   ·simp
   ·have:=(zgV.range h3 z hz).1
    simp only [decide_eq_false_iff_not];omega
  ·refine⟨(q1 x hx).1,fun d=> ?_⟩
   rw [(q1 x hx).2 d]
   have:=(zgV.range h3 x hx).1
   show _=slF n (if decide (y.i<x.i)then zjh n (zaK y.σ) y.o.dst y.val else zaK y.σ) xs (fun k=>decide (k<x.i)) d
   rw [if_pos (by simp only [decide_eq_true_eq];omega)]
theorem zgV.hp: ∀{xs:List Rec} {i:Nat} {σ σ':St},zgV i σ xs σ'→(∀x∈xs,∀t,zat x.σ.hp t=hpF (zat σ.hp) xs (fun k=>decide (k<x.i)) t)∧zat σ'.hp=hpF (zat σ.hp) xs fun _=>true
 | [],i,σ,σ',h=>by
  have h:σ=σ':=h
  subst h
  exact⟨by simp,rfl⟩
 |y::xs,i,σ,σ',h=>by
  obtain⟨h1,h2,h3⟩:=h
  subst h2
  obtain⟨q1,q3⟩:=zgV.hp h3
  rw [y.next_hp]at q1 q3
  refine⟨fun x hx=> ?_,q3⟩
  rcases List.mem_cons.1 hx with rfl|hx
  ·refine fun d=>(zrO _ fun z hz _=> ?_).symm
   rcases List.mem_cons.1 hz with rfl|hz
   ·simp
   ·have:=(zgV.range h3 z hz).1
    simp only [decide_eq_false_iff_not];omega
  ·intro t
   rw [q1 x hx t]
   have:=(zgV.range h3 x hx).1
   show _=hpF (if decide (y.i<x.i)then zeH (zat y.σ.hp) y.ent else zat y.σ.hp) xs (fun k=>decide (k<x.i)) t
   rw [if_pos (by simp only [decide_eq_true_eq];omega)]
theorem zze {y:Rec} {hp1:Nat→Option Ent} (hS:S y.i=true) (ht:t∈y.ent.map (·.1)): ∀{xs:List Rec} {i:Nat} {σ σ':St} {hp0:Nat→Option Ent},zgV i σ xs σ'→y∈xs→(∀x∈xs,x.i≠y.i→t∈x.ent.map (·.1)→S x.i=decide (x.i<y.i))→hpF hp0 xs S t=zeH hp1 y.ent t
 | [],_,_,_,_,_,h,_=>by simp at h
 |x::xs,i,σ,σ',hp0,hc,hm,hs=>by
  by_cases hx:y=x
  ·subst hx
   have:=zrO (S:=S) (t:=t) xs (hp:=zeH hp0 y.ent) (fun z hz hz'=>by
    have hlt:=(zgV.range hc.2.2 z hz).1
    have h1:=hc.1
    rw [hs z (by simp [hz]) (by omega) hz']
    simp only [decide_eq_false_iff_not];omega)
   show hpF (if S y.i then zeH hp0 y.ent else hp0) xs S t=_
   rw [if_pos hS,this]
   exact zvs ht
  ·have hm':y∈xs:=by rcases List.mem_cons.1 hm with h|h;exact absurd h hx;exact h
   exact zze hS ht (hp0:=if S x.i then zeH hp0 x.ent else hp0) hc.2.2 hm' fun z hz=>hs z (by simp [hz])
end
end Go.Proofs.YtecngjbpbnfegaaGreatDoor
end
