/- The check of a design: its sheets. -/
import Derived.Test.YtipcmdllhllolaaGreatDoorM31
noncomputable section
namespace Go.Abs.Sym
open Go.Abs.T
open Go.Proofs
def KD (T0 T1:TypD):Ctx:=over (KC T0 T1) [t29] []
section
variable {T0 T1:TypD}
theorem kd_4 (i:Pth) (h1:Pth.beq i t65=false) (h2:Pth.beq i t29=false) (h3:memP i [t29]=false) (xs:List AV) (h:H):(KD T0 T1).sums i xs h=K4.sums i xs h :=
 (over_rest (X:=KC T0 T1) h3 rfl xs h).trans (kc_4 i h1 h2 xs h)
theorem sD {f:Nat} {i:Pth} {xs:List AV} {v:AV} {h:H} (h1:Pth.beq i t65=false) (h2:Pth.beq i t29=false) (h3:memP i [t29]=false) (h4:K4.sums i xs h=some v):callN (KD T0 T1) (f+1) (g i) xs h=.ret v h :=
 call_sum (by rw [List.nil_append,List.append_nil,kd_4 i h1 h2 h3]; exact h4)
theorem k4_1 (i:Pth) (h3:memP i [t7,t28,t29,t35,t34,t36,t37]=false) (h5:memP i [t20,t66]=false) (h6:Pth.beq i t75=false) (xs:List AV) (h:H):K4.sums i xs h=K1.sums i xs h :=
 (over_rest (X:=K3) h3 rfl xs h).trans ((sums3_2 _ _ _ h5).trans (sums2_1 _ _ _ h6))
theorem failD {f:Nat} (e:Nat) (h:H):callN (KD T0 T1) (f+1) (g t27) [.bool false,.int .i64 (.ofNat e)] h=.ret (.tup []) h:=sD rfl rfl rfl ((k4_1 t27 rfl rfl rfl _ _).trans (fail_sum _ h))
theorem rightD {f:Nat} {s:Bs} (hs:s∈rightNs) (h:H):callN (KD T0 T1) (f+1) (g t30) [.str s] h=.ret (.bool true) h:=sD rfl rfl rfl ((k4_1 t30 rfl rfl rfl _ _).trans (right_sum hs h))
end
structure CkE where
 top:Bs
 Ss:Sl SheetD
 Ts:Sl TypD
 va:Bool
 fl:Bool
def CkE.d (E:CkE):List AV:=[.str E.top,slV sheetC E.Ss,slV tyC E.Ts,slV bsC (vaL E.va),shV E.Ss.l,.bool E.fl]
def CkE.d4 (E:CkE):List AV:=[.str E.top,slV sheetC E.Ss,slV tyC E.Ts,slV bsC (vaL E.va)]
structure ShFacts (E:CkE) (s:SheetD):Prop where
 right:s.nm∈rightNs
 n1:s.syms.l.length≤40
 n2:s.joins.l.length≤80
 n3:s.subs.l.length≤10
 n4:s.ports.l.length≤16
 n5:s.power.l.length≤16
 prt:∀ h,K1.sums t33 [.agg (sheetC s)] h=some (.tup [])
 sym:∃ tm,(∀ pm h,K4.sums t35 [.agg E.d,.agg (sheetC s),.bool pm] h=some (tmV tm))∧∀ pm h,K4.sums t34 [.agg (sheetC s),tmV tm,.bool pm] h=some (.tup [])
 sub:∀ h,K4.sums t36 [.agg E.d,.agg (sheetC s)] h=some (.tup [])
structure CkOK (E:CkE):Prop where
 lt:E.Ss.l.length<1000
 ok:∀ (k:Nat) s,E.Ss.l[k]?=some s→ShFacts E s∧(E.Ss.l.take k).any (fun c=>eqS c.nm s.nm)=false
def CkI (E:CkE) (db ob m0:Nat) (u0:Tr AB) (r:Nat) (s:St):Prop:=∃ fr m t k,s=⟨fr,[],⟨up .e m,t,.lf⟩,.no,none,t26⟩∧k+r=E.Ss.l.length∧m0≤m ∧
 fr.get t0=some (.ptr (up .e db) 0)∧fr.get t1=some (.ptr (up .e ob) 0)∧fr.get t29=some (slV sheetC E.Ss)∧fr.get t30=some (.int .i64 (.ofNat E.Ss.l.length))∧fr.get t31=some (.int .i64 (.ofNat k))∧∀ i,i<m0→t.get (up .e i)=u0.get (up .e i)
theorem st_max' (h:H) (k k':IntKind) (x y:Int):stepA h .max [.int k x,.int k' y]=.val (.int k (bif ltI x y then y else x)) h:=rfl
set_option maxHeartbeats 1000000 in
theorem ck_round {T0 T1:TypD} (E:CkE) (ok:CkOK E) {db ob m0:Nat} {u0:Tr AB} (ad:u0.get (up .e db)=some (.cells E.d4 false)) (ao:u0.get (up .e ob)=some (.cells E.d false)) (hdb:db<m0) (hob:ob<m0) (r:Nat) (s:St) (h:CkI E db ob m0 u0 r s) :
  Stp (CkI E db ob m0 u0) (fun o=>∃ s,o=.exit 0 s∧CkI E db ob m0 u0 0 s) r (execA (KD T0 T1) (callN (KD T0 T1) 47) c26_l0 s):=by
 obtain ⟨fr,m,t,k,rfl,hk,hm,g0,g1,g29,g30,g31,hfr⟩:=h
 have hlt:=ok.lt
 have bd:=(hfr db hdb).trans ad
 have bo:=(hfr ob hob).trans ao
 cases r with
 | zero =>
  have hkn:(k<E.Ss.l.length)=False:=eq_false (by omega)
  simp +decide only [SC,c26_l0,g30,g31,ltI_dec,hkn,stp_e]
  refine ⟨_,rfl,_,m,t,k,rfl,hk,hm,?_,?_,?_,?_,?_,hfr⟩
  all_goals simp +decide only [gp,g0,g1,g29,g30,g31,if_false]
 | succ r =>
  have hkn:(k<E.Ss.l.length)=True:=eq_true (by omega)
  obtain ⟨x,hka⟩:∃ x,E.Ss.l[k]?=some x:=⟨_,List.getElem?_eq_getElem (by omega)⟩
  have ia:=at_slV (f:=sheetC) (sz:=6) len_sheet (by decide) hka
  have hw:=wr_add k 1 (by omega)
  obtain ⟨fx,hany⟩:=ok.ok k x hka
  obtain ⟨tm,hsy,hjn⟩:=fx.sym
  have hfl:∀ (e:Nat) h,callN (KD T0 T1) 47 (.fn t27 [] []) [.bool false,.int .i64 (.ofNat e)] h=.ret (.tup []) h:=fun e h=>failD (f:=46) e h
  have hri:∀ h,callN (KD T0 T1) 47 (.fn t30 [] []) [.str x.nm] h=.ret (.bool true) h:=fun h=>rightD (f:=46) fx.right h
  have hpo:∀ h,callN (KD T0 T1) 47 (.fn t33 [] []) [.agg (sheetC x)] h=.ret (.tup []) h:=fun h=>sD (f:=46) rfl rfl rfl ((k4_1 t33 rfl rfl rfl _ _).trans (fx.prt h))
  have hsy':∀ pm h,callN (KD T0 T1) 47 (.fn t35 [] []) [.agg E.d,.agg (sheetC x),.bool pm] h=.ret (tmV tm) h:=fun pm h=>sD (f:=46) rfl rfl rfl (hsy pm h)
  have hjn':∀ pm h,callN (KD T0 T1) 47 (.fn t34 [] []) [.agg (sheetC x),tmV tm,.bool pm] h=.ret (.tup []) h:=fun pm h=>sD (f:=46) rfl rfl rfl (hjn pm h)
  have hsb:∀ h,callN (KD T0 T1) 47 (.fn t36 [] []) [.agg E.d,.agg (sheetC x)] h=.ret (.tup []) h:=fun h=>sD (f:=46) rfl rfl rfl (fx.sub h)
  have hsl:=slice_slV len_sheet (kd:=E.Ss.kind) (l:=E.Ss.l) (k:=k) (fun e=>by rw [e] at hka; exact absurd hka (by simp)) (by omega)
  have hle:∀ {a b:Nat},a≤b→ltI (.ofNat b) (.ofNat a)=false:=fun {a b} h=>by
   rw [ltI_dec]; exact decide_eq_false (by omega)
  have e1:=hle fx.n1
  have e2:=hle fx.n2
  have e3:=hle fx.n3
  have e4:ltI (.ofNat 16) (bif ltI (.ofNat x.ports.l.length) (.ofNat x.power.l.length) then .ofNat x.power.l.length else .ofNat x.ports.l.length)=false:=by
   cases ltI (.ofNat x.ports.l.length) (.ofNat x.power.l.length)
   ·exact hle fx.n4
   ·exact hle fx.n5
  have nd:=nz0 (show db<m by omega)
  have no:=nz0 (show ob<m by omega)
  simp only [CkE.d4] at bd
  simp only [CkE.d] at bo hsy' hsb
  simp only [sheetC] at ia hpo hsy' hjn' hsb
  simp +decide only [SC,c26_l0,up_inj,Nat.reduceAdd,Bool.and_self,g0,g29,g30,g31,bd,nd,hri,hsl,ltI_dec,hkn,ia,hfl]
  generalize hR:callN (KD T0 T1) 47 (g t31) _ _=R
  have hl0:(E.Ss.l.take k).length<90000:=by rw [List.length_take]; omega
  have hF31:(KD T0 T1).funcs.get t31=some (cfF t72):=rfl
  have hF72:(KD T0 T1).funcs.get t72=some (idxF 6):=rfl
  have hF32:(KD T0 T1).funcs.get t32=some c77:=rfl
  have hQ:=cf_nm (X:=KD T0 T1) (n:=44) (i:=t31) (c:=t32) (i2:=t72) (nm:=x.nm) (r':=[slV bsC x.ports,slV bsC x.power,slV symC x.syms,slV joinC x.joins,slV subC x.subs]) (f:=sheetC) (q:=fun c=>eqS c.nm x.nm) (l:=E.Ss.l.take k) (fun _ _=>rfl) hF31 (fun _ _=>rfl) hF72 (fun _ _=>rfl) hF32 rfl (View_slV len_sheet (by decide) _ ⟨1,E.Ss.l.take k⟩) hl0 (fun _=>⟨_,_,rfl⟩) (fun _=>rfl) rfl (by omega) (by rw [gp,if_pos rfl]) hR
  clear hR
  obtain ⟨j1,t',hRe,hold,hj1⟩:=hQ
  subst hRe
  have b3:t'.get (up .e m)=some (.cells [.str x.nm,slV bsC x.ports,slV bsC x.power,slV symC x.syms,slV joinC x.joins,slV subC x.subs] false):=(hold m (by omega)).trans (by rw [gp,if_pos rfl])
  have old:∀ i,i<m0→t'.get (up .e i)=u0.get (up .e i):=fun i hi=>by
   have n0:=nz0 (show i<m by omega)
   rw [hold i (by omega)]
   simp only [gp,up_inj,n0,if_false]
   exact hfr i hi
  have bd':=(old db hdb).trans ad
  have bo':=(old ob hob).trans ao
  simp only [CkE.d4] at bd'
  simp only [CkE.d] at bo'
  clear hold
  cases hE:E.fl with
  | false =>
   rw [hE] at hsy' hsb bo'
   simp +decide only [SC,Nat.reduceLeDiff,beq_rfl,Bool.and_self,hany,g1,g31,b3,bo',st_max',e1,e2,e3,e4,hpo,hsy',hjn',hsb,hfl,hw,len_slV,stp_n]
   refine ⟨r,by omega,_,_,t',k+1,rfl,by omega,?_,?_,?_,?_,?_,?_,old⟩
   ·omega
   all_goals simp +decide only [gp,g0,g1,g29,g30,if_true,if_false]
  | true =>
   rw [hE] at hsy' hsb bo'
   simp +decide only [SC,Nat.reduceLeDiff,beq_rfl,Bool.and_self,hany,g0,g1,g31,b3,bd',bo',st_max',e1,e2,e3,e4,hpo,hsy',hjn',hsb,hfl,hw,len_slV,stp_n]
   refine ⟨r,by omega,_,_,t',k+1,rfl,by omega,?_,?_,?_,?_,?_,?_,old⟩
   ·omega
   all_goals simp +decide only [gp,g0,g1,g29,g30,if_true,if_false]
end Go.Abs.Sym
end
