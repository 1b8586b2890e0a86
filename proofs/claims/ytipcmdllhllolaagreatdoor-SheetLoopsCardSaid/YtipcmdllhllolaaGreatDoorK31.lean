/- slices.ContainsFunc with functions that hold a cell against a cell of theirs. -/
import Derived.Test.YtipcmdllhllolaaGreatDoorK29
import Derived.Test.YtipcmdllhllolaaGreatDoorK28
import Derived.KernelRfl
noncomputable section
section
namespace Go.Abs.Sym
open Go.Abs.T
open Go.Proofs
def cfF (i2:Pth):AFunc:=⟨9, [.tmp t4], (.seq (.reg [⟨s4,.mov,[.const (.bool false)],none⟩]) (.seq (.reg [⟨s5,.mov,[v0],none⟩, ⟨s6,.mov,[v1],none⟩, ⟨s7,.call,[.const (g i2), v5, v6],none⟩, ⟨s8,.bin .geq .one,[v7, .const i0],none⟩, ⟨s4,.mov,[v8],none⟩]) .ret))⟩
theorem cf31:c31=cfF t72:=rfl
theorem cf63:c63=cfF t105:=rfl
theorem cf78:c78=cfF t119:=rfl
theorem clos77 {X:Ctx} {n:Nat} {i:Pth} (hs:∀ xs h, X.sums i xs h=none) (hF:X.funcs.get i=some c77) {b:Pth} {nm s:List Nat} {r r':List AV} {h:H} (hb:b.num<h.next.num) (hg:h.t.get b=some (.cells (.str nm::r') false)) :
  callN X (n+1) (.fn i [] [.ptr b 0]) [.agg (.str s::r)] h=.ret (.bool (eqS s nm)) (h.newB (.cells (.str s::r) false)):=by
 rw [call_fn (F:=c77) (hs _ _) hF]
 have hne:(b=h.next)=False:=eq_false (fun e=>by rw [e] at hb; omega)
 have hne':(h.next=b)=False:=eq_false (fun e=>by rw [e] at hb; omega)
 simp +decide only [c77,SM,hg,hne]
theorem clos64 {X:Ctx} {n:Nat} {i:Pth} (hs:∀ xs h, X.sums i xs h=none) (hF:X.funcs.get i=some c64) {b:Pth} {nm s s0:List Nat} {r r':List AV} {h:H} (hb:b.num<h.next.num) (hg:h.t.get b=some (.cells (.str nm::r') false)) :
  callN X (n+1) (.fn i [] [.ptr b 0]) [.agg (.str s0::.str s::r)] h=.ret (.bool (eqS s nm)) (h.newB (.cells (.str s0::.str s::r) false)):=by
 rw [call_fn (F:=c64) (hs _ _) hF]
 have hne:(b=h.next)=False:=eq_false (fun e=>by rw [e] at hb; omega)
 have hne':(h.next=b)=False:=eq_false (fun e=>by rw [e] at hb; omega)
 simp +decide only [c64,SM,hg,hne]
theorem plc_ge {α:Type} (q:α→Bool) (l:List α):leI (.ofNat 0) (plc q l 0)=l.any q:=by
 rcases plc_find q l 0 with ⟨h1, h2⟩ | ⟨k, x, h1, h2, h3⟩
 ·rw [h1]
  have:l.any q=false:=by
   rw [List.any_eq_false]
   intro x hx hq
   exact absurd (List.find?_eq_none.1 h2 x hx) (by simp [hq])
  rw [this]; rfl
 ·rw [h1]
  have:l.any q=true:=List.any_eq_true.2 ⟨x, List.mem_of_find?_eq_some h3, find_at h3⟩
  rw [this]; rfl
theorem cf_ok {X:Ctx} {n:Nat} {i i2:Pth} {fv:AV} {sz:Nat} {sv:AV} {p:Pth} {j:Nat} {t:Tr AB} {α:Type} {f:α→List AV} {P:List AV→Bool} {q:α→Bool} {l:List α} {R:CRes}
  (hs1:∀ xs h, X.sums i xs h=none) (hF1:X.funcs.get i=some (cfF i2)) (hs:∀ xs h, X.sums i2 xs h=none) (hF:X.funcs.get i2=some (idxF sz)) (hfu:X.fuel=100000)
  (hv:View ⟨up p j, t, .lf⟩ sz sv (l.map f)) (hlen:l.length<90000) (hP:∀ a, P (f a)=q a)
  (hcl:∀ h, Ext ⟨up p j, t, .lf⟩ h→∀ e∈l.map f, ∃ h', callN X (n+1) fv [.agg e] h=.ret (.bool (P e)) h'∧Ext h h')
  (hR:callN X (n+3) (.fn i [] []) [sv, fv] ⟨up p j, t, .lf⟩=R) :
  ∃ r t', R=.ret (.bool (l.any q)) ⟨up r 0, t', .lf⟩∧(∀ id:Pth, id.num<(up p j).num→t'.get id=t.get id)∧(up p j).num≤r.num:=by
 obtain ⟨h', hc', he⟩:=idx_ok (X:=X) (n:=n+1) (i:=i2) (sv:=sv) (fv:=fv) (p:=P) (hs _ _) hF hfu hv (by rw [len_map]; exact hlen) hcl
 obtain ⟨nx, t', ro⟩:=h'
 have hro:ro=.lf:=he.ro
 subst hro
 refine ⟨nx, t', ?_, he.t, he.next⟩
 rw [← hR, call_fn (F:=cfF i2) (hs1 _ _) hF1]
 rw [idxOf_map (f:=f) hP l 0] at hc'
 have hg:=plc_ge q l
 simp +decide only [cfF,SM,hc',hg]
 rfl
theorem of_e {v:AV} {j:Nat} {t:Tr AB} {R:CRes} (h:∃ r t', R=.ret v ⟨up r 0, t', .lf⟩∧(∀ id:Pth, id.num<(up .e j).num→t'.get id=t.get id)∧(up .e j).num≤r.num):∃ j' t', R=.ret v ⟨up .e j', t', .lf⟩∧(∀ i, i<j→t'.get (up .e i)=t.get (up .e i))∧j≤j':=by
 obtain ⟨r, t', h1, h2, h3⟩:=h
 have hn:∀ k, (up .e k).num=k:=fun k=>by rw [up_num]; simp [Pth.num]
 refine ⟨r.num, t', ?_, fun i hi=>h2 _ (by rw [hn, hn]; exact hi), by rwa [hn] at h3⟩
 rw [h1, ← up_of r]
 rfl
theorem cf_nm {X:Ctx} {n:Nat} {i i2 c:Pth} {sz:Nat} {sv:AV} {b:Pth} {j:Nat} {t:Tr AB} {nm:Bs} {r':List AV} {α:Type} {f:α→List AV} {q:α→Bool} {l:List α} {R:CRes}
  (hs1:∀ xs h, X.sums i xs h=none) (hF1:X.funcs.get i=some (cfF i2)) (hs:∀ xs h, X.sums i2 xs h=none) (hF:X.funcs.get i2=some (idxF sz)) (hsc:∀ xs h, X.sums c xs h=none) (hFc:X.funcs.get c=some c77) (hfu:X.fuel=100000)
  (hv:View ⟨up .e j, t, .lf⟩ sz sv (l.map f)) (hlen:l.length<90000) (hes:∀ a, ∃ s r, f a=.str s::r) (hP:∀ a, hdIs nm (f a)=q a) {bi:Nat} (hbi:b=up .e bi) (hb:bi<j) (hg:t.get b=some (.cells (.str nm::r') false))
  (hR:callN X (n+3) (.fn i [] []) [sv, .fn c [] [.ptr b 0]] ⟨up .e j, t, .lf⟩=R) :
  ∃ j' t', R=.ret (.bool (l.any q)) ⟨up .e j', t', .lf⟩∧(∀ i, i<j→t'.get (up .e i)=t.get (up .e i))∧j≤j':=by
 have hn:∀ k, (up .e k).num=k:=fun k=>by rw [up_num]; simp [Pth.num]
 have hb:b.num<(up .e j).num:=by rw [hbi, hn, hn]; exact hb
 exact of_e (cf_ok hs1 hF1 hs hF hfu hv hlen hP (fun h hx e hm=>by
  obtain ⟨a, _, rfl⟩:=List.mem_map.1 hm
  obtain ⟨s, r, hs'⟩:=hes a
  rw [hs']
  exact ⟨_, clos77 hsc hFc (h:=h) (Nat.lt_of_lt_of_le hb hx.next) ((hx.t b hb).trans hg), Ext.newB _ _⟩) hR)
def sdIs (nm:List Nat):List AV→Bool
 | _::.str s::_=>eqS s nm
 | _=>false
theorem cf_sd {X:Ctx} {n:Nat} {i i2 c:Pth} {sz:Nat} {sv:AV} {b:Pth} {j:Nat} {t:Tr AB} {nm:Bs} {r':List AV} {α:Type} {f:α→List AV} {q:α→Bool} {l:List α} {R:CRes}
  (hs1:∀ xs h, X.sums i xs h=none) (hF1:X.funcs.get i=some (cfF i2)) (hs:∀ xs h, X.sums i2 xs h=none) (hF:X.funcs.get i2=some (idxF sz)) (hsc:∀ xs h, X.sums c xs h=none) (hFc:X.funcs.get c=some c64) (hfu:X.fuel=100000)
  (hv:View ⟨up .e j, t, .lf⟩ sz sv (l.map f)) (hlen:l.length<90000) (hes:∀ a, ∃ s0 s r, f a=.str s0::.str s::r) (hP:∀ a, sdIs nm (f a)=q a) {bi:Nat} (hbi:b=up .e bi) (hb:bi<j) (hg:t.get b=some (.cells (.str nm::r') false))
  (hR:callN X (n+3) (.fn i [] []) [sv, .fn c [] [.ptr b 0]] ⟨up .e j, t, .lf⟩=R) :
  ∃ j' t', R=.ret (.bool (l.any q)) ⟨up .e j', t', .lf⟩∧(∀ i, i<j→t'.get (up .e i)=t.get (up .e i))∧j≤j':=by
 have hn:∀ k, (up .e k).num=k:=fun k=>by rw [up_num]; simp [Pth.num]
 have hb:b.num<(up .e j).num:=by rw [hbi, hn, hn]; exact hb
 exact of_e (cf_ok hs1 hF1 hs hF hfu hv hlen hP (fun h hx e hm=>by
  obtain ⟨a, _, rfl⟩:=List.mem_map.1 hm
  obtain ⟨s0, s, r, hs'⟩:=hes a
  rw [hs']
  exact ⟨_, clos64 hsc hFc (h:=h) (Nat.lt_of_lt_of_le hb hx.next) ((hx.t b hb).trans hg), Ext.newB _ _⟩) hR)
end Go.Abs.Sym
end
section
namespace Go.Abs.Sym
open Go.Abs.T
open Go.Proofs
theorem fail3 {f:Nat} (e:Nat) (h:H):callN K3 (f+1) (g t27) [.bool false, .int .i64 (.ofNat e)] h=.ret (.tup []) h :=
 call_sum (by rw [List.nil_append, List.append_nil, sums3_2 _ _ _ rfl, sums2_1 _ _ _ rfl]; exact fail_sum _ h)
theorem mem3 {f:Nat} {s:Bs} {l:List Bs} (hs:(s, l)∈memT) (p:Bool) (h:H):callN K3 (f+1) (g t74) [.str s, .bool p] h=.ret (slV bsC ⟨1, l⟩) h :=
 call_sum (by rw [List.nil_append, List.append_nil, sums3_2 _ _ _ rfl, sums2_1 _ _ _ rfl]; exact mem_sum hs p h)
theorem find3 {f:Nat} {T:TypD} (sm:Nice T) {nm:Bs} {p:PadD} (hp:findP T nm=some p) (h:H):callN K3 (f+1) (g t75) [.agg (tyC T), .str nm] h=.ret (.tup [.agg (padC p), .bool true]) h :=
 call_sum (by rw [List.nil_append, List.append_nil, sums3_2 _ _ _ rfl]; exact find_sum sm hp h)
theorem st_look' (h:H) (kn:KeyK) (z:AV) (ok:Bool) (m k:AV):stepA h (.lookup kn z ok) [m, k]=match lookupA h kn z ok m k with | some v=>.val v h | none=>.bad:=rfl
theorem KeepF_put {l:List Pth} {q:Pth} {v:AV} {fr0 fr:Tr AV} (h:memP q l=false):KeepF l fr0 (fr.put q v)=KeepF l fr0 fr:=by
 have hm:∀ {l:List Pth}, memP q l=false→∀ p∈l, p≠q:=by
  intro l
  induction l with
  | nil=>intro _ p hp; cases hp
  | cons a l ih =>
   intro h p hp
   simp only [memP, Bool.or_eq_false_iff] at h
   rcases List.mem_cons.1 hp with rfl | hp
   ·intro e
    subst e
    have:=Pth.beq_iff.2 (rfl:p=p)
    rw [this] at h
    exact absurd h.1 (by decide)
   ·exact ih h.2 p hp
 refine propext ⟨fun hk p hp => ?_, fun hk p hp => ?_⟩
 ·have:=hk p hp
  rwa [gp, if_neg (fun e=>hm h p hp e)] at this
 ·rw [gp, if_neg (fun e=>hm h p hp e)]
  exact hk p hp
theorem nz {i m:Nat} (h:i<m) (c:Nat):(i=m+c)=False:=eq_false (by omega)
theorem nz0 {i m:Nat} (h:i<m):(i=m)=False:=eq_false (by omega)
theorem nw {i m:Nat} (h:i<m) (c:Nat):(m+c=i)=False:=eq_false (by omega)
theorem nw0 {i m:Nat} (h:i<m):(m=i)=False:=eq_false (by omega)
def jnR:List Pth:=[t1, t2, t3, t6, t8, t9, t11, t12, t22, t23, t24]
def JfI (l:List Bs) (m0:Nat) (u0:Tr AB) (fr0:Tr AV) (r:Nat) (s:St):Prop:=∃ fr m t k, s=⟨fr, [], ⟨up .e m, t, .lf⟩, .no, none, t34⟩∧k+r=l.length∧m0≤m∧KeepF jnR fr0 fr ∧
 fr.get t53=some (slV bsC ⟨1, l⟩)∧fr.get t54=some (.int .i64 (.ofNat l.length))∧fr.get t55=some (.int .i64 (.ofNat k))∧∀ i, i<m0→t.get (up .e i)=u0.get (up .e i)
theorem jf_round {T:TypD} (sm:Nice T) {l:List Bs} (hl:l.length<1000) (hf:∀ p∈l, ∃ pd, findP T p=some pd) {tb m0:Nat} {u0:Tr AB} {fr0:Tr AV} (g9:fr0.get t9=some (.ptr (up .e tb) 0)) (a9:u0.get (up .e tb)=some (.cells (tyC T) false)) (htb:tb<m0) (r:Nat) (s:St) (h:JfI l m0 u0 fr0 r s) :
  Stp (JfI l m0 u0 fr0) (fun o=>∃ s, o=.exit 2 s∧JfI l m0 u0 fr0 0 s) r (execA K3 (callN K3 49) c34_l0 s):=by
 obtain ⟨fr, m, t, k, rfl, hk, hm, kf, g53, g54, g55, hfr⟩:=h
 have h9:=(kf t9 (by simp [jnR])).trans g9
 have b9:=(hfr tb htb).trans a9
 cases r with
 | zero =>
  have hkn:(k<l.length)=False:=eq_false (by omega)
  simp +decide only [c34_l0,SF,g54,g55,ltI_dec,hkn,stp_e]
  refine ⟨_, rfl, _, m, t, k, rfl, hk, hm, ?_, ?_, ?_, ?_, hfr⟩
  ·simp +decide only [KeepF_put]
   exact kf
  all_goals simp +decide only [gp,g53,g54,g55,if_false]
 | succ r =>
  have hkn:(k<l.length)=True:=eq_true (by omega)
  obtain ⟨p, hka⟩:∃ p, l[k]?=some p:=⟨_, List.getElem?_eq_getElem (by omega)⟩
  have ia:=at_slV (f:=bsC) (sz:=1) (s:=⟨1, l⟩) len_bs (by decide) hka
  obtain ⟨pd, hpd⟩:=hf p (List.mem_of_getElem? hka)
  have hw:=wr_add k 1 (by omega)
  have hfd:∀ h, callN K3 49 (.fn t75 [] []) [.agg (tyC T), .str p] h=.ret (.tup [.agg (padC pd), .bool true]) h:=fun h=>find3 (f:=48) sm hpd h
  have hfl:∀ h, callN K3 49 (.fn t27 [] []) [.bool false, .int .i64 (.ofNat 22)] h=.ret (.tup []) h:=fun h=>fail3 (f:=48) 22 h
  simp only [bsC] at ia
  have htk:takeD (tyC T) 0 3=some (tyC T):=takeD_all rfl
  simp only [tyC] at htk b9 hfd
  simp only [padC] at hfd
  simp +decide only [c34_l0,SF,Nat.reduceAdd,g53,g54,g55,h9,b9,htk,ltI_dec,hkn,ia,hfd,hfl,hw,stp_n,List.getElem?_cons_zero,List.getElem?_cons_succ]
  refine ⟨r, by omega, _, m+1, _, k+1, rfl, by omega, by omega, ?_, ?_, ?_, ?_, fun i hi => ?_⟩
  ·simp +decide only [KeepF_put]
   exact kf
  ·simp +decide only [gp,g53,if_false]
  ·simp +decide only [gp,g54,if_false]
  ·simp +decide only [gp, if_true, reduceIte]
  ·have n0:=nz0 (show i<m by omega)
   simp only [gp, up_inj, n0, if_false]
   exact hfr i hi
def JpI (ref:Bs) (l:List Bs) (seen:List (Bs×Bs)) (mb m0:Nat) (u0:Tr AB) (fr0:Tr AV) (r:Nat) (s:St):Prop:=∃ fr m t k, s=⟨fr, [], ⟨up .e m, t, .lf⟩, .no, none, t34⟩∧k+r=l.length∧m0≤m∧KeepF jnR fr0 fr ∧
 fr.get t75=some (slV bsC ⟨1, l⟩)∧fr.get t76=some (.int .i64 (.ofNat l.length))∧fr.get t77=some (.int .i64 (.ofNat k))∧t.get (up .e mb)=some (.amap (mpP (seen++(l.take k).map fun p=>(ref, p))))∧∀ i, i<m0→i≠mb→t.get (up .e i)=u0.get (up .e i)
theorem jp_round {ref net pad:Bs} {l:List Bs} {seen:List (Bs×Bs)} (hl:l.length<1000) (hnd:(seen++l.map fun p=>(ref, p)).Nodup) {mb jb m0:Nat} {u0:Tr AB} {fr0:Tr AV} (g6:fr0.get t6=some (.mapv (up .e mb))) (g8:fr0.get t8=some (.ptr (up .e jb) 0)) (a8:u0.get (up .e jb)=some (.cells [.str net, .str ref, .str pad] false)) (hjb:jb<m0) (hmb:mb<m0) (hjm:jb≠mb) (r:Nat) (s:St) (h:JpI ref l seen mb m0 u0 fr0 r s) :
  Stp (JpI ref l seen mb m0 u0 fr0) (fun o=>∃ s, o=.exit 4 s∧JpI ref l seen mb m0 u0 fr0 0 s) r (execA K3 (callN K3 49) c34_l1 s):=by
 obtain ⟨fr, m, t, k, rfl, hk, hm, kf, g75, g76, g77, am, hfr⟩:=h
 have h6:=(kf t6 (by simp [jnR])).trans g6
 have h8:=(kf t8 (by simp [jnR])).trans g8
 have b8:=(hfr jb hjb hjm).trans a8
 cases r with
 | zero =>
  have hkn:(k<l.length)=False:=eq_false (by omega)
  simp +decide only [c34_l1,SF,g76,g77,ltI_dec,hkn,stp_e]
  refine ⟨_, rfl, _, m, t, k, rfl, hk, hm, ?_, ?_, ?_, ?_, am, hfr⟩
  ·simp +decide only [KeepF_put]
   exact kf
  all_goals simp +decide only [gp,g75,g76,g77,if_false]
 | succ r =>
  have hkn:(k<l.length)=True:=eq_true (by omega)
  obtain ⟨p, hka⟩:∃ p, l[k]?=some p:=⟨_, List.getElem?_eq_getElem (by omega)⟩
  have ia:=at_slV (f:=bsC) (sz:=1) (s:=⟨1, l⟩) len_bs (by decide) hka
  have hw:=wr_add k 1 (by omega)
  have hfl:∀ h, callN K3 49 (.fn t27 [] []) [.bool false, .int .i64 (.ofNat 6)] h=.ret (.tup []) h:=fun h=>fail3 (f:=48) 6 h
  simp only [bsC] at ia
  have htk1:l.take (k+1)=l.take k++[p]:=by rw [List.take_add_one, hka]; rfl
  have hni:(ref, p)∉seen++(l.take k).map fun p=>(ref, p):=by
   have hsub:(seen++(l.take (k+1)).map fun p=>(ref, p)).Nodup:=hnd.sublist ((List.Sublist.refl _).append ((List.take_sublist _ _).map _))
   rw [htk1, List.map_append, ← List.append_assoc] at hsub
   have:=(List.nodup_append.1 hsub).2.2
   intro hin
   exact this _ hin _ (by simp) rfl
  have nm0:=nz0 (show mb<m by omega)
  have nj0:=nz0 (show jb<m by omega)
  have am':∀ x y:AB, ((t.put (up .e m) x).put (up .e m) y).get (up .e mb)=some (.amap (mpP (seen++(l.take k).map fun p=>(ref, p)))):=fun x y=>by
   simp only [gp, up_inj, nm0, if_false]
   exact am
  have lk:∀ (nx:Pth) (x y:AB), lookupA ⟨nx, (t.put (up .e m) x).put (up .e m) y, .lf⟩ ⟨[.s, .s], true⟩ (.bool false) false (.mapv (up .e mb)) (.agg [.str ref, .str p])=some (.bool false):=fun nx x y=>by
   have:=look_P (h:=⟨nx, (t.put (up .e m) x).put (up .e m) y, .lf⟩) (am' x y) ref p
   rw [decide_eq_false hni] at this
   exact this
  have mu:∀ (nx:Pth) (x y:AB), mapUpdA ⟨nx, (t.put (up .e m) x).put (up .e m) y, .lf⟩ ⟨[.s, .s], true⟩ (.mapv (up .e mb)) (.agg [.str ref, .str p]) (.bool true)=some ⟨nx, ((t.put (up .e m) x).put (up .e m) y).put (up .e mb) (.amap (mpP (seen++(l.take (k+1)).map fun p=>(ref, p)))), .lf⟩:=fun nx x y=>by
   have:=mapUpd_P (h:=⟨nx, (t.put (up .e m) x).put (up .e m) y, .lf⟩) (am' x y) hni
   rw [List.append_assoc, show ((l.take k).map fun p=>(ref, p))++[(ref, p)]=(l.take (k+1)).map fun p=>(ref, p) by rw [htk1, List.map_append]; rfl] at this
   exact this
  simp +decide only [c34_l1,SF,Nat.reduceAdd,g75,g76,g77,h6,h8,b8,st_look',st_upd,lk,mu,ltI_dec,hkn,ia,hfl,hw,stp_n]
  refine ⟨r, by omega, _, m+1, _, k+1, rfl, by omega, by omega, ?_, ?_, ?_, ?_, ?_, fun i hi hne => ?_⟩
  ·simp +decide only [KeepF_put]
   exact kf
  ·simp +decide only [gp,g75,if_false]
  ·simp +decide only [gp,g76,if_false]
  ·simp +decide only [gp, if_true, reduceIte]
  ·rw [gp, if_pos rfl]
  ·have n0:=nz0 (show i<m by omega)
   simp only [gp, up_inj, n0, hne, if_false]
   exact hfr i hi hne
theorem jf_loop {T:TypD} (sm:Nice T) {l:List Bs} (hl:l.length<1000) (hf:∀ p∈l, ∃ pd, findP T p=some pd) {fr:Tr AV} {m tb:Nat} {t:Tr AB} {o:Out}
  (hit:iterA (execA K3 (callN K3 49) c34_l0) 100000 ⟨fr, [], ⟨up .e m, t, .lf⟩, .no, none, t34⟩=o) (g9:fr.get t9=some (.ptr (up .e tb) 0)) (a9:t.get (up .e tb)=some (.cells (tyC T) false)) (htb:tb<m)
  (g53:fr.get t53=some (slV bsC ⟨1, l⟩)) (g54:fr.get t54=some (.int .i64 (.ofNat l.length))) (g55:fr.get t55=some i0) :
  ∃ fr' m' t', o=.exit 2 ⟨fr', [], ⟨up .e m', t', .lf⟩, .no, none, t34⟩∧m≤m'∧KeepF jnR fr fr'∧∀ i, i<m→t'.get (up .e i)=t.get (up .e i):=by
 have ho:∃ s, o=.exit 2 s∧JfI l m t fr 0 s:=by
  rw [← hit]
  exact iter_rule (JfI l m t fr) (fun o=>∃ s, o=.exit 2 s∧JfI l m t fr 0 s) (fun r s h=>jf_round sm hl hf g9 a9 htb r s h) 100000 l.length _ ⟨fr, m, t, 0, rfl, Nat.zero_add _, Nat.le_refl _, fun _ _=>rfl, g53, g54, g55, fun _ _=>rfl⟩ (by omega)
 obtain ⟨s, rfl, fr', m', t', k, rfl, _, h1, h2, _, _, _, h3⟩:=ho
 exact ⟨fr', m', t', rfl, h1, h2, h3⟩
theorem jp_loop {ref net pad:Bs} {l:List Bs} {seen:List (Bs×Bs)} (hl:l.length<1000) (hnd:(seen++l.map fun p=>(ref, p)).Nodup) {fr:Tr AV} {m mb jb:Nat} {t:Tr AB} {o:Out}
  (hit:iterA (execA K3 (callN K3 49) c34_l1) 100000 ⟨fr, [], ⟨up .e m, t, .lf⟩, .no, none, t34⟩=o) (g6:fr.get t6=some (.mapv (up .e mb))) (g8:fr.get t8=some (.ptr (up .e jb) 0)) (a8:t.get (up .e jb)=some (.cells [.str net, .str ref, .str pad] false)) (am:t.get (up .e mb)=some (.amap (mpP seen))) (hjb:jb<m) (hmb:mb<m) (hjm:jb≠mb)
  (g75:fr.get t75=some (slV bsC ⟨1, l⟩)) (g76:fr.get t76=some (.int .i64 (.ofNat l.length))) (g77:fr.get t77=some i0) :
  ∃ fr' m' t', o=.exit 4 ⟨fr', [], ⟨up .e m', t', .lf⟩, .no, none, t34⟩∧m≤m'∧KeepF jnR fr fr'∧t'.get (up .e mb)=some (.amap (mpP (seen++l.map fun p=>(ref, p))))∧∀ i, i<m→i≠mb→t'.get (up .e i)=t.get (up .e i):=by
 have ho:∃ s, o=.exit 4 s∧JpI ref l seen mb m t fr 0 s:=by
  rw [← hit]
  refine iter_rule (JpI ref l seen mb m t fr) (fun o=>∃ s, o=.exit 4 s∧JpI ref l seen mb m t fr 0 s) (fun r s h=>jp_round hl hnd g6 g8 a8 hjb hmb hjm r s h) 100000 l.length _ ⟨fr, m, t, 0, rfl, Nat.zero_add _, Nat.le_refl _, fun _ _=>rfl, g75, g76, g77, ?_, fun _ _ _=>rfl⟩ (by omega)
  rw [List.take_zero, List.map_nil, List.append_nil]
  exact am
 obtain ⟨s, rfl, fr', m', t', k, rfl, h0, h1, h2, _, _, _, h3, h4⟩:=ho
 rw [List.take_of_length_le (by omega)] at h3
 exact ⟨fr', m', t', rfl, h1, h2, h3, h4⟩
end Go.Abs.Sym
end
section
namespace Go.Abs.Sym
open Go.Abs.T
open Go.Proofs
def memF (s:Bs):List Bs:=((memT.find? fun e=>decide (s=e.1)).map (·.2)).getD []
def tmV (tm:List (Bs×TypD)):AV:=.rmap (tm.map fun p=>.str p.1) (tm.map fun p=>.agg (tyC p.2))
theorem zip_maps {α β γ:Type} (f:α→β) (g:α→γ):∀ l:List α, (l.map f).zip (l.map g)=l.map fun a=>(f a, g a)
 | []=>rfl
 | a::l=>by simp only [List.map_cons, List.zip_cons_cons, zip_maps f g l]
theorem look_R {α:Type} (key:α→List Nat) (f:α→AV) (l:List α) (h:H) (z:AV) (ok:Bool) (k:List Nat) :
  lookupA h kS z ok (.rmap (l.map fun a=>.str (key a)) (l.map f)) (.str k)=some (match l.find? fun a=>decide (k=key a) with | some a=>bif ok then .tup [f a, .bool true] else f a | none=>bif ok then .tup [z, .bool false] else z):=by
 have e:=find_S key f k l
 unfold mpS at e
 simp only [lookupA, keyOK_S, cond_true, zip_maps, e]
 cases l.find? fun a=>decide (k=key a)<;>rfl
def pinsJ (j:JoinD):List (Bs×Bs):=(memF j.pad).map fun p=>(j.ref, p)
structure JnOk (tm:List (Bs×TypD)) (j:JoinD):Prop where
 net:(j.net, memF j.net)∈memT
 pad:(j.pad, memF j.pad)∈memT
 ne:memF j.pad≠[]
 lt:(memF j.pad).length<1000
 len:(memF j.net).length=(memF j.pad).length
 ty:∃ T, tm.find? (fun a=>decide (j.ref=a.1))=some (j.ref, T)∧Nice T∧∀ p∈memF j.pad, ∃ pd, findP T p=some pd
structure JnE where
 tm:List (Bs×TypD)
 js:Sl JoinD
 pm:Bool
def JnI (E:JnE) (r:Nat) (s:St):Prop:=∃ fr m t k mb, s=⟨fr, [], ⟨up .e m, t, .lf⟩, .no, none, t34⟩∧k+r=E.js.l.length∧mb<m ∧
 fr.get t1=some (tmV E.tm)∧fr.get t2=some (.bool E.pm)∧fr.get t6=some (.mapv (up .e mb))∧fr.get t22=some (slV joinC E.js)∧fr.get t23=some (.int .i64 (.ofNat E.js.l.length))∧fr.get t24=some (.int .i64 (.ofNat k)) ∧
 t.get (up .e mb)=some (.amap (mpP ((E.js.l.take k).flatMap pinsJ)))
theorem jn_round (E:JnE) (hl:E.js.l.length<1000) (hok:∀ j∈E.js.l, JnOk E.tm j) (hnd:(E.js.l.flatMap pinsJ).Nodup) (r:Nat) (s:St) (h:JnI E r s) :
  Stp (JnI E) (fun o=>∃ s, o=.exit 0 s∧JnI E 0 s) r (execA K3 (callN K3 49) c34_l2 s):=by
 obtain ⟨fr, m, t, k, mb, rfl, hk, hmb, g1, g2, g6, g22, g23, g24, am⟩:=h
 cases r with
 | zero =>
  have hkn:(k<E.js.l.length)=False:=eq_false (by omega)
  simp +decide only [c34_l2,SF,g23,g24,ltI_dec,hkn,stp_e]
  refine ⟨_, rfl, _, m, t, k, mb, rfl, hk, hmb, ?_, ?_, ?_, ?_, ?_, ?_, am⟩
  all_goals simp +decide only [gp,g1,g2,g6,g22,g23,g24,if_false]
 | succ r =>
  have hkn:(k<E.js.l.length)=True:=eq_true (by omega)
  obtain ⟨j, hka⟩:∃ j, E.js.l[k]?=some j:=⟨_, List.getElem?_eq_getElem (by omega)⟩
  have ia:=at_slV (f:=joinC) (sz:=3) len_join (by decide) hka
  have hw:=wr_add k 1 (by omega)
  have hj:=hok j (List.mem_of_getElem? hka)
  obtain ⟨T, hT, sm, hf⟩:=hj.ty
  have hlk:∀ h:H, lookupA h ⟨[.s], false⟩ (.agg [e0, .nils, .nils]) true (tmV E.tm) (.str j.ref)=some (.tup [.agg (tyC T), .bool true]):=fun h=>by
   have:=look_R (fun a:Bs×TypD=>a.1) (fun a=>.agg (tyC a.2)) E.tm h (.agg [e0, .nils, .nils]) true j.ref
   rw [hT] at this
   exact this
  have hfl:∀ (e:Nat) h, callN K3 49 (.fn t27 [] []) [.bool false, .int .i64 (.ofNat e)] h=.ret (.tup []) h:=fun e h=>fail3 (f:=48) e h
  have hmn:∀ h, callN K3 49 (.fn t74 [] []) [.str j.net, .bool E.pm] h=.ret (slV bsC ⟨1, memF j.net⟩) h:=fun h=>mem3 (f:=48) hj.net E.pm h
  have hmp:∀ h, callN K3 49 (.fn t74 [] []) [.str j.pad, .bool false] h=.ret (slV bsC ⟨1, memF j.pad⟩) h:=fun h=>mem3 (f:=48) hj.pad false h
  have hln:=hj.len
  have hlt:=hj.lt
  have hne0:0<(memF j.pad).length:=List.length_pos_iff.2 hj.ne
  have hl1:eqI (.ofNat (memF j.pad).length) (.ofNat 0)=false:=by rw [eqI_dec]; exact decide_eq_false (fun e=>by have:=Int.ofNat.inj e; omega)
  have hl2:eqI (.ofNat (memF j.net).length) (.ofNat 0)=false:=by rw [eqI_dec]; exact decide_eq_false (fun e=>by have:=Int.ofNat.inj e; omega)
  have hl3:eqI (.ofNat (memF j.net).length) (.ofNat (memF j.pad).length)=true:=by rw [eqI_dec]; exact decide_eq_true (by rw [hln])
  have n1:(m=m+1)=False:=eq_false (by omega)
  have n2:(m+1=m)=False:=eq_false (by omega)
  have nb:=nz0 hmb
  have nb':=nz hmb
  simp only [tyC] at hlk
  simp only [joinC] at ia
  simp +decide only [c34_l2,SF,Nat.reduceAdd,Nat.reduceLeDiff,g1,g2,g22,g23,g24,st_look',n1,n2,hlk,hmn,hmp,hl1,hl2,ltI_dec,hkn,ia,hfl,len_slV,List.getElem?_cons_zero,List.getElem?_cons_succ]
  generalize hit:iterA (execA K3 (callN K3 49) c34_l0) _ _=o
  obtain ⟨fr2, m2, t2', rfl, hm2, kf, hfr⟩:=jf_loop (tb:=m+1) sm hlt hf hit (by simp +decide only [gp,if_true,if_false]) (by rw [gp, if_pos rfl]; rfl) (by omega) (by simp +decide only [gp,if_true,if_false]) (by simp +decide only [gp,if_true,if_false]) (by simp +decide only [gp,if_true,if_false])
  clear hit
  have nm2:=nz0 (show m<m+11 by omega)
  have k1:fr2.get t1=some (tmV E.tm):=(kf t1 (by simp [jnR])).trans (by simp +decide only [gp,g1,if_false])
  have k2:fr2.get t2=some (.bool E.pm):=(kf t2 (by simp [jnR])).trans (by simp +decide only [gp,g2,if_false])
  have k6:fr2.get t6=some (.mapv (up .e mb)):=(kf t6 (by simp [jnR])).trans (by simp +decide only [gp,g6,if_false])
  have k8:fr2.get t8=some (.ptr (up .e m) 0):=(kf t8 (by simp [jnR])).trans (by simp +decide only [gp,if_true,if_false])
  have k11:fr2.get t11=some (slV bsC ⟨1, memF j.net⟩):=(kf t11 (by simp [jnR])).trans (by simp +decide only [gp,if_true,if_false])
  have k12:fr2.get t12=some (slV bsC ⟨1, memF j.pad⟩):=(kf t12 (by simp [jnR])).trans (by simp +decide only [gp,if_true,if_false])
  have k22:fr2.get t22=some (slV joinC E.js):=(kf t22 (by simp [jnR])).trans (by simp +decide only [gp,g22,if_false])
  have k23:fr2.get t23=some (.int .i64 (.ofNat E.js.l.length)):=(kf t23 (by simp [jnR])).trans (by simp +decide only [gp,g23,if_false])
  have k24:fr2.get t24=some (.int .i64 (.ofNat k)):=(kf t24 (by simp [jnR])).trans (by simp +decide only [gp,g24,if_false])
  have a8:t2'.get (up .e m)=some (.cells [.str j.net, .str j.ref, .str j.pad] false):=(hfr m (by omega)).trans (by simp +decide only [gp,up_inj,n1,if_true,if_false])
  have am2:t2'.get (up .e mb)=some (.amap (mpP ((E.js.l.take k).flatMap pinsJ))):=(hfr mb (by omega)).trans (by simp +decide only [gp,up_inj,nb,nb',am,if_false])
  clear kf hfr
  simp +decide only [SF,k11,k12,len_slV,hl3,hfl]
  generalize hit:iterA (execA K3 (callN K3 49) c34_l1) _ _=o
  have htk1:E.js.l.take (k+1)=E.js.l.take k++[j]:=by rw [List.take_add_one, hka]; rfl
  have hnd':((E.js.l.take k).flatMap pinsJ++(memF j.pad).map fun p=>(j.ref, p)).Nodup:=by
   have:((E.js.l.take (k+1)).flatMap pinsJ).Nodup:=by
    have h:=hnd
    rw [← List.take_append_drop (k+1) E.js.l, List.flatMap_append] at h
    exact (List.nodup_append.1 h).1
   rw [htk1, List.flatMap_append, List.flatMap_cons, List.flatMap_nil, List.append_nil] at this
   exact this
  obtain ⟨fr3, m3, t3', rfl, hm3, kf, am3, hfr⟩:=jp_loop (jb:=m) (mb:=mb) (net:=j.net) (pad:=j.pad) hlt hnd' hit (by simp +decide only [gp,k6,if_false]) (by simp +decide only [gp,k8,if_false]) a8 am2 (by omega) (by omega) (by omega) (by simp +decide only [gp,if_true,if_false]) (by simp +decide only [gp,if_true,if_false]) (by simp +decide only [gp,if_true,if_false])
  clear hit
  have k1:fr3.get t1=some (tmV E.tm):=(kf t1 (by simp [jnR])).trans (by simp +decide only [gp,k1,if_false])
  have k2:fr3.get t2=some (.bool E.pm):=(kf t2 (by simp [jnR])).trans (by simp +decide only [gp,k2,if_false])
  have k6:fr3.get t6=some (.mapv (up .e mb)):=(kf t6 (by simp [jnR])).trans (by simp +decide only [gp,k6,if_false])
  have k22:fr3.get t22=some (slV joinC E.js):=(kf t22 (by simp [jnR])).trans (by simp +decide only [gp,k22,if_false])
  have k23:fr3.get t23=some (.int .i64 (.ofNat E.js.l.length)):=(kf t23 (by simp [jnR])).trans (by simp +decide only [gp,k23,if_false])
  have k24:fr3.get t24=some (.int .i64 (.ofNat k)):=(kf t24 (by simp [jnR])).trans (by simp +decide only [gp,k24,if_false])
  simp +decide only [SF,k24,hw,stp_n]
  refine ⟨r, by omega, _, m3, t3', k+1, mb, rfl, by omega, by omega, ?_, ?_, ?_, ?_, ?_, ?_, ?_⟩
  any_goals simp +decide only [gp,k1,k2,k6,k22,k23,if_true,if_false]
  rw [am3, htk1, List.flatMap_append, List.flatMap_cons, List.flatMap_nil, List.append_nil]
  rfl
theorem frz_ty' (T:TypD):frz (.agg (tyC T))=true:=by simp only [frz, frz_ty]
theorem frzs_map {α:Type} {f:α→AV} (hf:∀ a, frz (f a)=true):∀ l:List α, frzs (l.map f)=true
 | []=>rfl
 | a::l=>by simp only [List.map_cons, frzs, hf, frzs_map hf l, Bool.and_self]
theorem frz_tm (tm:List (Bs×TypD)):frz (tmV tm)=true:=by
 simp only [tmV, frz, Bool.and_eq_true]
 exact ⟨frzs_map (fun _=>rfl) _, frzs_map (f:=fun a:Bs×TypD=>.agg (tyC a.2)) (fun a=>frz_ty' a.2) _⟩
theorem joins_sum (E:JnE) {s:SheetD} (hs':s.joins=E.js) (hl:E.js.l.length<1000) (hok:∀ j∈E.js.l, JnOk E.tm j) (hnd:(E.js.l.flatMap pinsJ).Nodup) (h:H):K4.sums t34 [.agg (sheetC s), tmV E.tm, .bool E.pm] h=some (.tup []):=by
 have hs:∀ xs, K3.sums t34 xs h0=none:=fun _=>rfl
 have hF:K3.funcs.get t34=some c34:=rfl
 have hr:Ret (callN K3 50 (.fn t34 [] []) [.agg (sheetC s), tmV E.tm, .bool E.pm] h0) (fun v _=>v=.tup []):=by
  refine begin3 (hs _) hF fun fr t ga gb gc => ?_
  rw [c34]
  simp only [sheetC, hs'] at ga
  simp +decide only [SM,Nat.reduceAdd,ga,len_slV,kf3,st_mkMap]
  generalize hit:iterA (execA K3 (callN K3 49) c34_l2) _ _=o
  have ho:∃ s, o=.exit 0 s∧JnI E 0 s:=by
   rw [← hit]
   refine iter_rule (JnI E) (fun o=>∃ s, o=.exit 0 s∧JnI E 0 s) (fun r s h=>jn_round E hl hok hnd r s h) 100000 E.js.l.length _ ⟨_, 2, _, 0, 1, rfl, Nat.zero_add _, by omega, ?_, ?_, ?_, ?_, ?_, ?_, ?_⟩ (by omega)
   all_goals simp +decide only [gp,gb,gc,if_true,if_false]
   rfl
  obtain ⟨s, rfl, fr', m', t', k, mb, rfl, _⟩:=ho
  simp +decide only [SM]
 obtain ⟨v, h1, hc, rfl⟩:=hr
 exact over_fz' (X:=K3) rfl hc (by simp only [frzs, frz, frz_sheet, frz_tm, Bool.and_self]) rfl h
end Go.Abs.Sym
end
section
namespace Go.Abs.Sym
open Go.Abs.T
open Go.Proofs
theorem row1 {f:Pth} {args:List AV} {v:AV} (hm:memP f [t61,t59,t47,t60,t27,t30,t74,t24,t19,t21,t33,t110,t111,t67]=true) (ha:frzs args=true) (hv:frz v=true) (h1:F.callC K0 50 (.fn f [] []) args h0 (isV v)=true) (h:H):K1.sums f args h=some v:=by
 rw [F.callC_eq] at h1
 obtain ⟨h2, h3⟩:=isV_ret h1
 exact over_fz' (X:=K0) hm h3 ha hv h
theorem has_lite (h:H):K1.sums t67 [slV bsC ⟨0, [liteB]⟩, .str liteB] h=some (.bool true):=row1 rfl rfl rfl (by kernel_rfl) h
theorem not_lite (h:H):K1.sums t67 [slV bsC ⟨1, []⟩, .str liteB] h=some (.bool false):=row1 rfl rfl rfl (by kernel_rfl) h
theorem s31 {f:Nat} {i:Pth} {xs:List AV} {v:AV} {h:H} (h1:memP i [t20, t66]=false) (h2:Pth.beq i t75=false) (h3:K1.sums i xs h=some v):callN K3 (f+1) (g i) xs h=.ret v h :=
 call_sum (by rw [List.nil_append, List.append_nil, sums3_2 _ _ _ h1, sums2_1 _ _ _ h2]; exact h3)
def syR:List Pth:=[t2, t3, t4, t7, t9, t12, t18, t19, t20]
def NtI (l:List Bs) (m0:Nat) (u0:Tr AB) (fr0:Tr AV) (r:Nat) (s:St):Prop:=∃ fr m t k, s=⟨fr, [], ⟨up .e m, t, .lf⟩, .no, none, t35⟩∧k+r=l.length∧m0≤m∧KeepF syR fr0 fr ∧
 fr.get t59=some (.int .i64 (.ofNat l.length))∧fr.get t60=some (.int .i64 (.ofNat k))∧(0<l.length→fr.get t58=some (slV bsC ⟨1, l⟩))∧∀ i, i<m0→t.get (up .e i)=u0.get (up .e i)
theorem nt_round {db xb m0:Nat} {u0:Tr AB} {fr0:Tr AV} {top Sh Ts M fl ref ty:AV} (g3:fr0.get t3=some (.ptr (up .e db) 0)) (g9:fr0.get t9=some (.ptr (up .e xb) 0)) {l:List Bs} (hl:l=[]∨l=[liteB]∧u0.get (up .e db)=some (.cells [top, Sh, Ts, slV bsC ⟨0, [liteB]⟩, M, fl] false)∧u0.get (up .e xb)=some (.cells [ref, ty, slV bsC ⟨1, l⟩] false)) (hd:db<m0) (hx:xb<m0) (r:Nat) (s:St) (h:NtI l m0 u0 fr0 r s) :
  Stp (NtI l m0 u0 fr0) (fun o=>∃ s, o=.exit 2 s∧NtI l m0 u0 fr0 0 s) r (execA K3 (callN K3 49) c35_l0 s):=by
 obtain ⟨fr, m, t, k, rfl, hk, hm, kf, g59, g60, g58, hfr⟩:=h
 cases r with
 | zero =>
  have hkn:(k<l.length)=False:=eq_false (by omega)
  simp +decide only [c35_l0,SF,g59,g60,ltI_dec,hkn,stp_e]
  refine ⟨_, rfl, _, m, t, k, rfl, hk, hm, ?_, ?_, ?_, ?_, hfr⟩
  ·simp +decide only [KeepF_put]
   exact kf
  all_goals simp +decide only [gp,g59,g60,if_false]
  exact g58
 | succ r =>
  rcases hl with rfl | ⟨rfl, ad, ax⟩
  ·simp at hk
  ·have hk0:k=0∧r=0:=by simp at hk; omega
   obtain ⟨rfl, rfl⟩:=hk0
   have h58:=g58 (by simp)
   have h3:=(kf t3 (by simp [syR])).trans g3
   have h9:=(kf t9 (by simp [syR])).trans g9
   have bd:=(hfr db hd).trans ad
   have bx:=(hfr xb hx).trans ax
   have ia:=at_slV (f:=bsC) (sz:=1) (s:=⟨1, [liteB]⟩) (k:=0) len_bs (by decide) rfl
   have hfl:∀ (e:Nat) h, callN K3 49 (.fn t27 [] []) [.bool false, .int .i64 (.ofNat e)] h=.ret (.tup []) h:=fun e h=>fail3 (f:=48) e h
   have hc1:∀ h, callN K3 49 (.fn t67 [] []) [slV bsC ⟨0, [liteB]⟩, .str liteB] h=.ret (.bool true) h:=fun h=>s31 (f:=48) rfl rfl (has_lite h)
   have hc2:∀ h, callN K3 49 (.fn t67 [] []) [.rslc 0 [], .str liteB] h=.ret (.bool false) h:=fun h=>s31 (f:=48) rfl rfl (not_lite h)
   have hsl:sliceA (.slc 1) false true false [slV bsC ⟨1, [liteB]⟩, .int .i64 (.ofNat 0)]=some (.rslc 0 []):=rfl
   have hw:wrapA .i64 (.ofNat 0 + .ofNat 1)=.ofNat 1:=rfl
   have hlt:ltI (.ofNat 0) (.ofNat 1)=true:=rfl
   simp only [bsC] at ia
   simp +decide only [c35_l0,SF,g59,g60,h58,h3,h9,bd,bx,ia,hc1,hc2,hsl,hfl,hw,hlt,stp_n]
   refine ⟨0, by omega, _, m, t, 1, rfl, rfl, hm, ?_, ?_, ?_, ?_, hfr⟩
   ·simp +decide only [KeepF_put]
    exact kf
   all_goals simp +decide only [gp,g59,if_true,if_false]
   exact fun _=>h58
theorem nt_loop {fr:Tr AV} {m db xb:Nat} {t:Tr AB} {top Sh Ts M fl ref ty:AV} {l:List Bs} {o:Out}
  (hit:iterA (execA K3 (callN K3 49) c35_l0) 100000 ⟨fr, [], ⟨up .e m, t, .lf⟩, .no, none, t35⟩=o) (g3:fr.get t3=some (.ptr (up .e db) 0)) (g9:fr.get t9=some (.ptr (up .e xb) 0)) (hl:l=[]∨l=[liteB]∧t.get (up .e db)=some (.cells [top, Sh, Ts, slV bsC ⟨0, [liteB]⟩, M, fl] false)∧t.get (up .e xb)=some (.cells [ref, ty, slV bsC ⟨1, l⟩] false)) (hd:db<m) (hx:xb<m)
  (g59:fr.get t59=some (.int .i64 (.ofNat l.length))) (g60:fr.get t60=some i0) (g58:0<l.length→fr.get t58=some (slV bsC ⟨1, l⟩)) :
  ∃ fr' m' t', o=.exit 2 ⟨fr', [], ⟨up .e m', t', .lf⟩, .no, none, t35⟩∧m≤m'∧KeepF syR fr fr'∧∀ i, i<m→t'.get (up .e i)=t.get (up .e i):=by
 have hln:l.length<100000:=by
  rcases hl with rfl | ⟨rfl, _⟩<;>decide
 have ho:∃ s, o=.exit 2 s∧NtI l m t fr 0 s:=by
  rw [← hit]
  exact iter_rule (NtI l m t fr) (fun o=>∃ s, o=.exit 2 s∧NtI l m t fr 0 s) (fun r s h=>nt_round g3 g9 hl hd hx r s h) 100000 l.length _ ⟨fr, m, t, 0, rfl, Nat.zero_add _, Nat.le_refl _, fun _ _=>rfl, g59, g60, g58, fun _ _=>rfl⟩ hln
 obtain ⟨s, rfl, fr', m', t', k, rfl, _, h1, h2, _, _, _, h3⟩:=ho
 exact ⟨fr', m', t', rfl, h1, h2, h3⟩
end Go.Abs.Sym
end
section
namespace Go.Abs.Sym
open Go.Abs.T
open Go.Proofs
def prtL (b:Bool):Sl Bs:=bif b then ⟨1, [inB, edgeB]⟩ else ⟨1, []⟩
def pwrL (b:Bool):Sl Bs:=bif b then ⟨1, [vccB]⟩ else ⟨1, []⟩
theorem ports_run (nm:Bs) (S J U:AV):∀ a b:Bool, F.callC K0 50 (.fn t33 [] []) [.agg [.str nm, slV bsC (prtL a), slV bsC (pwrL b), S, J, U]] h0 (isV (.tup []))=true
 | false, false=>by kernel_rfl
 | false, true=>by kernel_rfl
 | true, false=>by kernel_rfl
 | true, true=>by kernel_rfl
theorem ports_sum {nm:Bs} {S J U:AV} (a b:Bool) (hS:frz S=true) (hJ:frz J=true) (hU:frz U=true) (h:H):K1.sums t33 [.agg [.str nm, slV bsC (prtL a), slV bsC (pwrL b), S, J, U]] h=some (.tup []):=by
 have h1:=ports_run nm S J U a b
 rw [F.callC_eq] at h1
 obtain ⟨h2, h3⟩:=isV_ret h1
 exact over_fz' rfl h3 (by simp only [frzs, frz, frz_slV frz_bs, hS, hJ, hU, Bool.and_self]) rfl h
end Go.Abs.Sym
end
section
namespace Go.Abs.Sym
open Go.Abs.T
open Go.Proofs
theorem get3 {f:Nat} {Ts:Sl TypD} (hl:Ts.l.length<90000) (sm:∀ T∈Ts.l, Nice T) {nm:Bs} {T:TypD} (hT:Ts.l.find? (fun T=>eqS T.nm nm)=some T) (h:H):callN K3 (f+1) (g t66) [slV tyC Ts, .str nm] h=.ret (.tup [.agg (tyC T), .bool true]) h :=
 call_sum (by rw [List.nil_append, List.append_nil]; exact get_sum hl sm hT h)
theorem right3 {f:Nat} {s:Bs} (hs:s∈rightNs) (h:H):callN K3 (f+1) (g t30) [.str s] h=.ret (.bool true) h:=s31 rfl rfl (right_sum hs h)
structure SmE where
 top:AV
 Sh:AV
 Ts:Sl TypD
 va:Bool
 M:AV
 fl:AV
 syms:Sl SymD
 tm:List (Bs×TypD)
def NotK (va:Bool) (nots:Sl Bs):Prop:=nots=⟨1, []⟩∨va=true∧nots=⟨1, [liteB]⟩
structure SmOK (E:SmE):Prop where
 lt:E.syms.l.length<1000
 lT:E.Ts.l.length<90000
 nice:∀ T∈E.Ts.l, Nice T
 len:E.tm.length=E.syms.l.length
 ok:∀ (k:Nat) x, E.syms.l[k]?=some x→∃ T, E.tm[k]?=some (x.ref, T)∧x.ref∈rightNs∧E.Ts.l.find? (fun T=>eqS T.nm x.ty)=some T∧NotK E.va x.nots
 nd:(E.tm.map (·.1)).Nodup
def vaL (va:Bool):Sl Bs:=bif va then ⟨0, [liteB]⟩ else ⟨1, []⟩
def dC (E:SmE):List AV:=[E.top, E.Sh, slV tyC E.Ts, slV bsC (vaL E.va), E.M, E.fl]
def SmI (E:SmE) (r:Nat) (s:St):Prop:=∃ fr m t k mb, s=⟨fr, [], ⟨up .e m, t, .lf⟩, .no, none, t35⟩∧k+r=E.syms.l.length∧mb<m∧0<mb ∧
 fr.get t3=some (.ptr (up .e 0) 0)∧fr.get t7=some (.mapv (up .e mb))∧fr.get t18=some (slV symC E.syms)∧fr.get t19=some (.int .i64 (.ofNat E.syms.l.length))∧fr.get t20=some (.int .i64 (.ofNat k)) ∧
 t.get (up .e 0)=some (.cells (dC E) false)∧t.get (up .e mb)=some (.amap (mpS (·.1) (fun p:Bs×TypD=>.agg (tyC p.2)) (E.tm.take k)))
theorem mpS_snoc {α:Type} (key:α→List Nat) (f:α→AV) (l:List α) (a:α):mpS key f l++[(.str (key a), f a)]=mpS key f (l++[a]):=by
 simp only [mpS, List.map_append, List.map_cons, List.map_nil]
theorem sm_round (E:SmE) (ok:SmOK E) (r:Nat) (s:St) (h:SmI E r s) :
  Stp (SmI E) (fun o=>∃ s, o=.exit 0 s∧SmI E 0 s) r (execA K3 (callN K3 49) c35_l1 s):=by
 obtain ⟨fr, m, t, k, mb, rfl, hk, hmb, hm0, g3, g7, g18, g19, g20, ad, am⟩:=h
 have hlt:=ok.lt
 cases r with
 | zero =>
  have hkn:(k<E.syms.l.length)=False:=eq_false (by omega)
  simp +decide only [c35_l1,SF,g19,g20,ltI_dec,hkn,stp_e]
  refine ⟨_, rfl, _, m, t, k, mb, rfl, hk, hmb, hm0, ?_, ?_, ?_, ?_, ?_, ad, am⟩
  all_goals simp +decide only [gp,g3,g7,g18,g19,g20,if_false]
 | succ r =>
  have hkn:(k<E.syms.l.length)=True:=eq_true (by omega)
  obtain ⟨x, hka⟩:∃ x, E.syms.l[k]?=some x:=⟨_, List.getElem?_eq_getElem (by omega)⟩
  have ia:=at_slV (f:=symC) (sz:=3) len_sym (by decide) hka
  have hw:=wr_add k 1 (by omega)
  obtain ⟨T, hT, hrt, hfT, hnot⟩:=ok.ok k x hka
  have hfl:∀ (e:Nat) h, callN K3 49 (.fn t27 [] []) [.bool false, .int .i64 (.ofNat e)] h=.ret (.tup []) h:=fun e h=>fail3 (f:=48) e h
  have hri:∀ h, callN K3 49 (.fn t30 [] []) [.str x.ref] h=.ret (.bool true) h:=fun h=>right3 (f:=48) hrt h
  have hge:∀ h, callN K3 49 (.fn t66 [] []) [slV tyC E.Ts, .str x.ty] h=.ret (.tup [.agg (tyC T), .bool true]) h:=fun h=>get3 (f:=48) ok.lT ok.nice hfT h
  have htk1:E.tm.take (k+1)=E.tm.take k++[(x.ref, T)]:=by rw [List.take_add_one, hT]; rfl
  have hno:∀ a∈E.tm.take k, a.1≠x.ref:=by
   have h1:((E.tm.take (k+1)).map (·.1)).Nodup:=ok.nd.sublist ((List.take_sublist _ _).map _)
   rw [htk1, List.map_append] at h1
   have h2:=(List.nodup_append.1 h1).2.2
   intro a ha e
   exact h2 _ (List.mem_map.2 ⟨a, ha, rfl⟩) _ (by simp) e
  have hnf:(E.tm.take k).find? (fun a=>decide (x.ref=a.1))=none:=List.find?_eq_none.2 fun a ha=>by
   simp only [decide_eq_true_eq]
   exact fun e=>hno a ha e.symm
  have nb:=nz0 hmb
  have nb':=nz hmb
  have n1:(m=m+1)=False:=eq_false (by omega)
  have n2:(m+1=m)=False:=eq_false (by omega)
  have n3:(m=m+2)=False:=eq_false (by omega)
  have n4:(m+2=m)=False:=eq_false (by omega)
  have n0:(0=m)=False:=eq_false (by omega)
  have n0':∀ c, (0=m+c)=False:=fun c=>eq_false (by omega)
  have lk:∀ (h:H) (z:AV), h.t.get (up .e mb)=some (.amap (mpS (·.1) (fun p:Bs×TypD=>.agg (tyC p.2)) (E.tm.take k)))→lookupA h ⟨[.s], false⟩ z true (.mapv (up .e mb)) (.str x.ref)=some (.tup [z, .bool false]):=fun h z hg=>by
   have:=look_S (h:=h) hg z true x.ref
   rw [hnf] at this
   exact this
  simp only [tyC] at hge
  simp only [symC] at ia
  have htb:∀ (t':Tr AB) (nx:Pth) (z:AV), t'.get (up .e mb)=some (.amap (mpS (·.1) (fun p:Bs×TypD=>.agg (tyC p.2)) (E.tm.take k)))→lookupA ⟨nx, t', .lf⟩ ⟨[.s], false⟩ z true (.mapv (up .e mb)) (.str x.ref)=some (.tup [z, .bool false]):=fun t' nx z hg=>lk ⟨nx, t', .lf⟩ z hg
  have lk1:∀ (nx:Pth) (z:AV) (a b:AB), lookupA ⟨nx, (t.put (up .e m) a).put (up .e m) b, .lf⟩ ⟨[.s], false⟩ z true (.mapv (up .e mb)) (.str x.ref)=some (.tup [z, .bool false]):=fun nx z a b=>htb _ nx z (by simp only [gp, up_inj, nb, if_false]; exact am)
  simp only [dC] at ad
  simp +decide only [c35_l1,SF,Nat.reduceAdd,Nat.reduceEqDiff,g3,g7,g18,g19,g20,ad,st_look',n0,n0',n1,n2,n3,n4,lk1,hri,hge,ltI_dec,hkn,ia,hfl,len_slV,List.getElem?_cons_zero,List.getElem?_cons_succ]
  generalize hit:iterA (execA K3 (callN K3 49) c35_l0) _ _=o
  have hx:x.nots.l=[]∨E.va=true∧x.nots=⟨1, [liteB]⟩:=by
   rcases hnot with e | e
   ·exact .inl (by rw [e])
   ·exact .inr e
  obtain ⟨fr2, m2, t2', rfl, hm2, kf, hfr⟩:=nt_loop (db:=0) (xb:=m) (top:=E.top) (Sh:=E.Sh) (Ts:=slV tyC E.Ts) (M:=E.M) (fl:=E.fl) (ref:=.str x.ref) (ty:=.str x.ty) (l:=x.nots.l) hit
   (by simp +decide only [gp,g3,if_false]) (by simp +decide only [gp,if_true,if_false])
   (hx.imp id fun ⟨e1, e2⟩=>by
    rw [e1] at ad
    rw [e2]
    refine ⟨rfl, ?_, ?_⟩
    ·simp +decide only [gp,up_inj,n0,n0',if_false]
     exact ad
    ·simp +decide only [gp,up_inj,n1,n3,if_false,if_true])
   (by omega) (by omega) (by simp +decide only [gp,if_true,if_false]) (by simp +decide only [gp,if_true,if_false])
   (fun hp=>by
    rcases hx with e | ⟨_, e⟩
    ·rw [e] at hp
     exact absurd hp (by simp)
    ·simp +decide only [gp,e,if_true,if_false])
  clear hit
  have k3:fr2.get t3=some (.ptr (up .e 0) 0):=(kf t3 (by simp [syR])).trans (by simp +decide only [gp,g3,if_false])
  have k7:fr2.get t7=some (.mapv (up .e mb)):=(kf t7 (by simp [syR])).trans (by simp +decide only [gp,g7,if_false])
  have k9:fr2.get t9=some (.ptr (up .e m) 0):=(kf t9 (by simp [syR])).trans (by simp +decide only [gp,if_true,if_false])
  have k12:fr2.get t12=some (.ptr (up .e (m+2)) 0):=(kf t12 (by simp [syR])).trans (by simp +decide only [gp,if_true,if_false])
  have k18:fr2.get t18=some (slV symC E.syms):=(kf t18 (by simp [syR])).trans (by simp +decide only [gp,g18,if_false])
  have k19:fr2.get t19=some (.int .i64 (.ofNat E.syms.l.length)):=(kf t19 (by simp [syR])).trans (by simp +decide only [gp,g19,if_false])
  have k20:fr2.get t20=some (.int .i64 (.ofNat k)):=(kf t20 (by simp [syR])).trans (by simp +decide only [gp,g20,if_false])
  have a0:t2'.get (up .e 0)=some (.cells (dC E) false):=(hfr 0 (by omega)).trans (by simp +decide only [gp,up_inj,n0,n0',ad,dC,if_false])
  have a9:t2'.get (up .e m)=some (.cells [.str x.ref, .str x.ty, slV bsC x.nots] false):=(hfr m (by omega)).trans (by simp +decide only [gp,up_inj,n1,n3,if_true,if_false])
  have a12:t2'.get (up .e (m+2))=some (.cells [.str T.nm, slV padC T.pads, slV gateC T.gates] false):=(hfr (m+2) (by omega)).trans (by simp +decide only [gp,up_inj,if_true])
  have am2:t2'.get (up .e mb)=some (.amap (mpS (·.1) (fun p:Bs×TypD=>.agg (tyC p.2)) (E.tm.take k))):=(hfr mb (by omega)).trans (by simp +decide only [gp,up_inj,nb,nb',am,if_false])
  clear kf hfr
  have mu:mapUpdA ⟨up .e m2, t2', .lf⟩ ⟨[.s], false⟩ (.mapv (up .e mb)) (.str x.ref) (.agg [.str T.nm, slV padC T.pads, slV gateC T.gates])=some ⟨up .e m2, t2'.put (up .e mb) (.amap (mpS (·.1) (fun p:Bs×TypD=>.agg (tyC p.2)) (E.tm.take (k+1)))), .lf⟩:=by
   have:=mapUpd_S (h:=⟨up .e m2, t2', .lf⟩) am2 hno (.agg (tyC T))
   rw [mpS_snoc (fun p:Bs×TypD=>p.1) (fun p:Bs×TypD=>.agg (tyC p.2)) (E.tm.take k) (x.ref, T), ← htk1] at this
   exact this
  simp +decide only [SF,k7,k9,k12,k20,a9,a12,st_upd,mu,hw,stp_n]
  have nb0:(0=mb)=False:=eq_false (by omega)
  refine ⟨r, by omega, _, m2, _, k+1, mb, rfl, by omega, by omega, hm0, ?_, ?_, ?_, ?_, ?_, ?_, ?_⟩
  any_goals simp +decide only [gp,up_inj,nb0,a0,k3,k7,k18,k19,if_true,if_false]
theorem deep_mp {d:Nat} {h:H} {id:Pth} {α:Type} {key:α→List Nat} {f:α→AV} {l:List α} (hf:∀ a, frz (f a)=true) (hg:h.t.get id=some (.amap (mpS key f l))):deep (d+1) h (.mapv id)=.rmap (l.map fun a=>.str (key a)) (l.map f):=by
 have e:deep (d+1) h (.mapv id)=.rmap ((mpS key f l).map fun e=>deep d h e.1) ((mpS key f l).map fun e=>deep d h e.2):=by
  simp only [deep, hg]
 rw [e]
 simp only [mpS, List.map_map]
 congr 1
 ·exact List.map_congr_left fun a _=>deep_frz _ _ _ rfl
 ·exact List.map_congr_left fun a _=>deep_frz _ _ _ (hf a)
theorem syms_sum (E:SmE) (ok:SmOK E) {s:SheetD} {pm:Bool} (hs':s.syms=E.syms) (hf:frzs (dC E)=true) (h:H):K4.sums t35 [.agg (dC E), .agg (sheetC s), .bool pm] h=some (tmV E.tm):=by
 have hs:∀ xs, K3.sums t35 xs h0=none:=fun _=>rfl
 have hF:K3.funcs.get t35=some c35:=rfl
 have hr:Ret (callN K3 50 (.fn t35 [] []) [.agg (dC E), .agg (sheetC s), .bool pm] h0) (fun v h=>deep 8 h v=tmV E.tm):=by
  refine begin3 (hs _) hF fun fr t ga gb gc => ?_
  rw [c35]
  simp only [sheetC, hs'] at gb
  simp +decide only [SM,Nat.reduceAdd,ga,gb,len_slV,kf3,st_mkMap]
  generalize hit:iterA (execA K3 (callN K3 49) c35_l1) _ _=o
  have ho:∃ s, o=.exit 0 s∧SmI E 0 s:=by
   rw [← hit]
   refine iter_rule (SmI E) (fun o=>∃ s, o=.exit 0 s∧SmI E 0 s) (fun r s h=>sm_round E ok r s h) 100000 E.syms.l.length _ ⟨_, 3, _, 0, 2, rfl, Nat.zero_add _, by omega, by omega, ?_, ?_, ?_, ?_, ?_, ?_, ?_⟩ (by have:=ok.lt; omega)
   all_goals simp +decide only [gp,if_true,if_false]
   rfl
  obtain ⟨s, rfl, fr', m', t', k, mb, rfl, hk, _, _, _, k7, _, _, _, _, am⟩:=ho
  rw [List.take_of_length_le (by have:=ok.len; omega)] at am
  simp +decide only [SM,k7]
  exact deep_mp (fun a=>frz_ty' a.2) am
 obtain ⟨v, h1, hc, hd⟩:=hr
 rw [← hd]
 exact over_fz (X:=K3) rfl hc (by simp only [frzs, frz, frz_sheet, hf, Bool.and_self]) (by rw [hd]; exact frz_tm _) h
end Go.Abs.Sym
end
section
namespace Go.Abs.Sym
open Go.Abs.T
def ZOkK (va:Bool) (most:Nat) (Ts:List TypD) (ref:Bs) (z:Zt):Prop:=z.1.ref=ref∧z.2.1∈Ts∧z.1.ty=z.2.1.nm∧NotK va z.1.nots∧JoOf z.2.1 ref most z.2.2∧z.2.2.length≤100
def ZsOkK (va:Bool) (most:Nat) (Ts:List TypD) (zs:List Zt):Prop:=∀ k z, zs[k]?=some z→ZOkK va most Ts (refN.getD k []) z
def PortsOkK (k most:Nat) (ports:Sl Bs):Prop:=k=0∧most=6∧ports=⟨1, []⟩∨0<k∧most=9∧ports=⟨1, [inB, edgeB]⟩
def SubsOkK (k:Nat) (us:List SubD):Prop:=∀ j u, us[j]?=some u→u.nm=subN.getD j []∧u.sh=sheetN.getD (k+1) []∧BindsOk u.binds.l
def loopB:Bs:=[108, 111, 111, 112]
def loopU (b:Nat):SubD:=⟨loopB, sheetN.getD b [], ⟨0, []⟩⟩
def ShOkK (va:Bool) (Ts:List TypD) (a b k cnt:Nat) (s:SheetD):Prop:=s.nm=sheetN.getD k []∧(s.power=⟨1, []⟩∨s.power=⟨1, [vccB]⟩) ∧
 (∃ most zs, PortsOkK k most s.ports∧ZsOkK va most Ts zs∧1≤zs.length∧zs.length≤3∧s.syms=⟨0, zs.map (·.1)⟩∧s.joins=⟨1, zs.flatMap (·.2.2)⟩) ∧
 ∃ us, s.subs.l=us++(if k=a then [loopU b] else [])∧SubsOkK k us∧(cnt≤k+1→us=[])∧(k+1<cnt→1≤us.length∧us.length≤2)
def ShsOkK (va:Bool) (Ts:List TypD) (a b cnt:Nat) (l:List SheetD):Prop:=∀ k s, l[k]?=some s→ShOkK va Ts a b k cnt s
end Go.Abs.Sym
end
end
