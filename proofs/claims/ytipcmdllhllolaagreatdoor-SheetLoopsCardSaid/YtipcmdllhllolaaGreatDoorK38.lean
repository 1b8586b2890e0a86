/- Copies of made designs, with a ring: what they are. -/
import Derived.Test.YtipcmdllhllolaaGreatDoorK37
noncomputable section
section
namespace Go.Abs.Sym
open Go.Abs.T
open Go.Proofs
def lpSh (a b k:Nat) (s:SheetD):SheetD:={ cpSh s with subs:=⟨0, s.subs.l.map cpSu++(if k=a then [loopU b] else [])⟩ }
theorem notK_of {va:Bool} {nots:Sl Bs} (h:NotOf va nots):NotK va (cpL nots):=by
 rcases h with rfl | ⟨hv, rfl⟩
 ·exact .inl rfl
 ·exact .inr ⟨hv, rfl⟩
theorem shK_of {va:Bool} {Ts:List TypD} {a b k cnt:Nat} {s:SheetD} (h:ShOk va Ts k cnt s):ShOkK va Ts a b k cnt (lpSh a b k s):=by
 obtain ⟨h1, h2, ⟨most, zs, hp, hz, z1, z3, ey, ej⟩, _, hsub, h0, hn⟩:=h
 refine ⟨h1, ?_, ⟨most, zs.map fun z=>(cpSy z.1, z.2.1, z.2.2), ?_, fun i z hi => ?_, by simpa using z1, by simpa using z3, ?_, ?_⟩, s.subs.l.map cpSu, rfl, fun j u hu => ?_, fun hc => ?_, fun hc => ?_⟩
 ·rcases h2 with h2 | h2
  ·exact .inl (by show cpL s.power=_; rw [h2]; rfl)
  ·exact .inr (by show cpL s.power=_; rw [h2]; rfl)
 ·rcases hp with ⟨e1, e2, e3⟩ | ⟨e1, e2, e3⟩
  ·exact .inl ⟨e1, e2, by show cpL s.ports=_; rw [e3]; rfl⟩
  ·exact .inr ⟨e1, e2, by show cpL s.ports=_; rw [e3]; rfl⟩
 ·simp only [List.getElem?_map, Option.map_eq_some_iff] at hi
  obtain ⟨z0, hi, rfl⟩:=hi
  obtain ⟨o1, o2, o3, o4, o5, o6⟩:=hz i z0 hi
  exact ⟨o1, o2, o3, notK_of o4, o5, o6⟩
 ·show (⟨0, s.syms.l.map cpSy⟩:Sl SymD)=_
  rw [ey, List.map_map, List.map_map]
  rfl
 ·show cpL s.joins=_
  rw [ej, List.flatMap_map]
  rfl
 ·simp only [List.getElem?_map, Option.map_eq_some_iff] at hu
  obtain ⟨u0, hu, rfl⟩:=hu
  obtain ⟨e1, e2, _, e4⟩:=hsub j u0 hu
  exact ⟨e1, e2, e4⟩
 ·rw [h0 hc]
  rfl
 ·rw [List.length_map]
  exact hn hc
theorem binds_len {bs:List BindD} (h:BindsOk bs):bs.length≤2:=by
 obtain ⟨x, y, rfl, hx, hy⟩:=h
 rcases hx with rfl | ⟨_, _, rfl⟩<;>rcases hy with rfl | ⟨_, _, rfl⟩<;>simp
theorem flat_len {α β:Type} {f:α→List β} {n:Nat}:∀ {l:List α}, (∀ x∈l, (f x).length≤n)→(l.flatMap f).length≤n*l.length
 | [], _=>by simp
 | a::l, h=>by
  have h1:=h a List.mem_cons_self
  have h2:=flat_len (l:=l) fun x hx=>h x (List.mem_cons_of_mem _ hx)
  rw [List.flatMap_cons, List.length_append, List.length_cons, Nat.mul_add, Nat.mul_one]
  omega
theorem mod_of {va:Bool} {Ts:List TypD} {k cnt:Nat} {s:SheetD} (h:ShOk va Ts k cnt s):Mod s:=by
 obtain ⟨h1, h2, ⟨most, zs, hp, hz, z1, z3, ey, ej⟩, _, hsub, h0, hn⟩:=h
 have hu2:s.subs.l.length≤2:=by
  rcases Nat.lt_or_ge (k+1) cnt with h | h
  ·exact (hn h).2
  ·rw [h0 h]; simp
 refine ⟨?_, ?_, ?_, ?_, by omega, fun x hx => ?_, fun u hu => ?_⟩
 ·rcases hp with ⟨_, _, e⟩ | ⟨_, _, e⟩<;>rw [e]<;>simp
 ·rcases h2 with e | e<;>rw [e]<;>simp
 ·rw [ej]
  have:=flat_len (f:=fun z:Zt=>z.2.2) (n:=100) (l:=zs) fun z hz'=>by
   obtain ⟨i, hi⟩:=List.mem_iff_getElem?.1 hz'
   exact (hz i z hi).2.2.2.2.2
  simp only
  omega
 ·rw [ey]
  simp
  omega
 ·rw [ey] at hx
  obtain ⟨z, hz', rfl⟩:=List.mem_map.1 hx
  obtain ⟨i, hi⟩:=List.mem_iff_getElem?.1 hz'
  obtain ⟨_, _, _, o4, _⟩:=hz i z hi
  rcases o4 with e | ⟨_, e⟩<;>rw [e]<;>simp
 ·obtain ⟨j, hj⟩:=List.mem_iff_getElem?.1 hu
  have:=binds_len (hsub j u hj).2.2.2
  omega
def lpE (d:DesD) (va:Bool) (a b:Nat):CkE :=
 ⟨d.top, ⟨0, d.sheets.l.mapIdx (lpSh a b)⟩, cpL d.types, va, !intoL d.top (d.sheets.l.mapIdx (lpSh a b))&&decide (((d.sheets.l.mapIdx (lpSh a b))[0]?.map fun B=>B.subs.l.length).getD 0=0)⟩
structure LoopF (d:DesD):Prop where
 ex : ∃ (va:Bool) (cnt:Nat) (cs cs':List (Nat×Nat×Nat)) (gs gs':List GateD), (2≤cs.length∧cs.length≤6∧(∀ c∈cs, CodeOK c)∧GOK cs.length gs)∧(2≤cs'.length∧cs'.length≤6∧(∀ c∈cs', CodeOK c)∧GOK cs'.length gs') ∧
  1≤cnt∧cnt≤3∧d.sheets.l.length=cnt∧slV bsC (cpL d.variants)=slV bsC (vaL va)∧(∀ s∈d.sheets.l, Mod s)∧d.types.l.length≤1000∧d.variants.l.length≤1000∧(∀ k, k<cnt→∃ s, d.sheets.l[k]?=some s∧s.nm=sheetN.getD k []) ∧
  ∀ a b, a<cnt→b≤a→DesL (tyOf [82] cs gs) (tyOf [81] cs' gs') (lpE d va a b) a b cnt
theorem loopF_of {d:DesD} (h:DesOk d):LoopF d:=by
 obtain ⟨top, va, cnt, cs, cs', gs, gs', h1, h3, hc, hc', ht, hv, hk, hn, hs⟩:=h
 refine ⟨va, cnt, cs, cs', gs, gs', hc, hc', h1, h3, hn, ?_, fun s hs' => ?_, by rw [ht]; simp, ?_, fun k hk => ?_, fun a b ha hb => ?_⟩
 ·rw [hv]
  cases va<;>rfl
 ·obtain ⟨k, hk⟩:=List.mem_iff_getElem?.1 hs'
  exact mod_of (hs k s hk)
 ·rw [hv]
  cases va<;>simp
 ·exact ⟨_, List.getElem?_eq_getElem (by omega), (hs k _ (List.getElem?_eq_getElem (by omega))).1⟩
 ·refine ⟨h3, ha, hb, top, by show cpL d.types=_; rw [ht]; rfl, tsF_of hc.1 hc.2.1 hc.2.2.2 hc'.1 hc'.2.1 hc'.2.2.2, ?_, fun k s hk => ?_, fun B hB => ?_⟩
  ·show (d.sheets.l.mapIdx (lpSh a b)).length=cnt
   rw [List.length_mapIdx, hn]
  ·have hk2:(d.sheets.l.mapIdx (lpSh a b))[k]?=some s:=hk
   rw [List.getElem?_mapIdx, Option.map_eq_some_iff] at hk2
   obtain ⟨s0, hk3, rfl⟩:=hk2
   exact shK_of (hs k s0 hk3)
  ·have hB:(d.sheets.l.mapIdx (lpSh a b))[0]?=some B:=hB
   simp only [lpE]
   rw [hB]
   rfl
end Go.Abs.Sym
end
section
namespace Go.Abs.Sym
open Go.Abs.T
open Go.Proofs
variable {X:Ctx}
set_option maxHeartbeats 1000000 in
theorem q5_run {f:Nat} {fr:Tr AV} {m c O a b n nb:Nat} {t:Tr AB} {tp ov tv vv u:AV} {F:List AV} {F':AV→List AV} {nm:Bs} {Mu:List Nat} {rows:List (List AV)} (g6:fr.get t6=some (.ptr (up .e c) 0)) (g7:fr.get t7=some (.int .i64 (.ofNat a))) (g8:fr.get t8=some (.int .i64 (.ofNat b)))
  (ac:t.get (up .e c)=some (.cells [tp, ov, tv, vv] false)) (hov:ov=.slc (up .e O) 0 n 6 none) (aO:t.get (up .e O)=some (.cells F true)) (hia:∀ k, k=a∨k=b→indexAddrA (.slc 6) (.slc (up .e O) 0 n 6 none) (.int .i64 (.ofNat k))=some (.ptr (up .e O) (k*6)))
  (hu:takeD F (a*6+5) 1=some [u]) (hn:takeD F (b*6) 1=some [.str nm]) (hset:∀ w:AV, setAt F (a*6+5) [w]=some (F' w)) (hG:GrowF 2 t m Mu 3 nb u rows) (hc:c<m) (hO:O<m) (hcO:c≠O) (hOM:O∈Mu) (hm1:1≤m) (hnb:0<rows.length→nb≠c∧nb≠O∧nb<m) (hlen:rows.length<1000) :
  ∃ fr' m' t' u' nb', execA X (callN X f) c5_q5 ⟨fr, [], ⟨up .e m, t, .lf⟩, .no, none, t5⟩=.nrm ⟨fr', [], ⟨up .e m', t', .lf⟩, .no, none, t5⟩∧m<m'∧KeepF [t5, t6] fr fr'∧t'.get (up .e c)=some (.cells [tp, ov, tv, vv] false)∧t'.get (up .e O)=some (.cells (F' u') true) ∧
   GrowF 2 t' m' (nb'::Mu) 3 nb' u' (rows++[[.str loopB, .str nm, .nils]])∧m≤nb'∧∀ i, i<m→i≠O→(0<rows.length→i≠nb)→t'.get (up .e i)=t.get (up .e i):=by
 subst hov
 have nc:=nz hc
 have nc0:=nz0 hc
 have nO:=nz hO
 have nO0:=nz0 hO
 have cO:(c=O)=False:=eq_false hcO
 have Oc:(O=c)=False:=eq_false (fun e=>hcO e.symm)
 have ia:=hia a (.inl rfl)
 have ib:=hia b (.inr rfl)
 simp +decide only [c5_q5,SF,Nat.reduceAdd,Nat.reduceLeDiff,g6,g7,g8,ac,aO,ia,ib,hu,hn,tkP_c,lvP_c,withP_c,cont_c,cont_n,dopsA]
 generalize hA:appendA _ 3 56 _ _=A
 have hG1:GrowF 2 (t.put (up .e (m+16)) (.cells [.str loopB, .str nm, .nils] false)) (m+21) Mu 3 nb u rows:=hG.step (by omega) ((Agr.refl t m Mu).put (.inr (by omega)) _) (fun h0 _=>by
  have:=hnb h0
  rw [gp, if_neg (fun e=>by rw [up_inj] at e; omega)]) (fun i hi=>.inl hi) id
 ·have hQ:=hG1.append (row:=[.str loopB, .str nm, .nils]) (ra:=[.str loopB, .str nm, .nils]) (x:=m+16) (sp:=false) hA (by rw [gp, if_pos rfl]) (FzL.of rfl rfl) rfl (by decide) (by omega) (by omega)
  obtain ⟨t2, hA2, d1, d2⟩:=hQ
  subst hA2
  have qc:t2.get (up .e c)=some (.cells [tp, .slc (up .e O) 0 n 6 none, tv, vv] false):=by
   rw [d1 c (by omega) (fun h e=>(hnb h).1 e.symm), gp, if_neg (fun e=>by rw [up_inj] at e; omega)]
   exact ac
  have qO:t2.get (up .e O)=some (.cells F true):=by
   rw [d1 O (by omega) (fun h e=>(hnb h).2.1 e.symm), gp, if_neg (fun e=>by rw [up_inj] at e; omega)]
   exact aO
  simp +decide only [SF,Nat.reduceAdd,Nat.reduceLeDiff,ac,ia,qc,qO,hset]
  refine ⟨_, m+22, _, .slc (up .e (m+21)) 0 (rows.length+1) 3 none, m+21, rfl, by omega, ?_, ?_, ?_, ?_, by omega, fun i hi h1 h2 => ?_⟩
  ·simp +decide only [KeepF_put]
   exact fun _ _=>rfl
  ·rw [gp, if_neg (fun e=>by rw [up_inj] at e; omega)]
   exact qc
  ·rw [gp, if_pos rfl]
  ·exact d2.step (Nat.le_refl _) ((Agr.refl t2 _ _).put (.inl (List.mem_cons_of_mem _ hOM)) _) (fun _ _=>by rw [gp, if_neg (fun e=>by rw [up_inj] at e; omega)]) (fun i hi=>.inl hi) id
  ·rw [gp, if_neg (fun e=>h1 (by rw [up_inj] at e; exact e)), d1 i (by omega) h2, gp, if_neg (fun e=>by rw [up_inj] at e; omega)]
theorem takeD_mid {A x y B:List AV} {v:AV} {k:Nat} (h:A.length+x.length=k):takeD (A++(x++v::y)++B) k 1=some [v]:=by
 have e:A++(x++v::y)++B=(A++x)++(v::(y++B)):=by simp
 have h1:(A++x).length=k:=by rw [List.length_append]; exact h
 simp only [takeD, e, List.drop_left' h1]
 rfl
theorem setAt_mid:∀ {A Q:List AV} {v w:AV} {k:Nat}, A.length=k→setAt (A++v::Q) k [w]=some (A++w::Q)
 | [], Q, v, w, k, h=>by
  subst h
  cases Q<;>rfl
 | a :: A, Q, v, w, k, h=>by
  cases k with
  | zero=>cases h
  | succ k =>
   have ih:=setAt_mid (A:=A) (Q:=Q) (v:=v) (w:=w) (k:=k) (by simpa using h)
   simp only [List.cons_append, setAt, ih, Option.map_some]
theorem flat_at {rs:List (List AV)} {row:List AV} {k:Nat} (h:rs[k]?=some row):rs.flatten=(rs.take k).flatten++row++(rs.drop (k+1)).flatten:=by
 obtain ⟨hk, rfl⟩:=List.getElem?_eq_some_iff.1 h
 have e:rs.take k++rs[k]::rs.drop (k+1)=rs:=by rw [← List.drop_eq_getElem_cons hk, List.take_append_drop]
 have e2:=congrArg List.flatten e
 rw [List.flatten_append, List.flatten_cons, ← List.append_assoc] at e2
 exact e2.symm
theorem flat_set {rs:List (List AV)} {row row':List AV} {k:Nat} (h:rs[k]?=some row):(rs.set k row').flatten=(rs.take k).flatten++row'++(rs.drop (k+1)).flatten:=by
 obtain ⟨hk, rfl⟩:=List.getElem?_eq_some_iff.1 h
 have h1:(rs.set k row')[k]?=some row':=by rw [List.getElem?_set_self hk]
 have e1:(rs.set k row').take k=rs.take k:=by rw [List.take_set, List.set_eq_of_length_le (by rw [List.length_take]; omega)]
 have e2:(rs.set k row').drop (k+1)=rs.drop (k+1):=by rw [List.drop_set_of_lt (by omega)]
 rw [flat_at h1, e1, e2]
end Go.Abs.Sym
end
section
namespace Go.Abs.Sym
open Go.Abs.T
open Go.Proofs
theorem fzl_flat {k m:Nat} {t:Tr AB} {Mu:List Nat}:∀ {rs als:List (List AV)}, rs.length=als.length→(∀ (i:Nat) (r x:List AV), rs[i]?=some r→als[i]?=some x→FzL k t m Mu r x)→FzL k t m Mu rs.flatten als.flatten
 | [], [], _, _=>trivial
 | r::rs, x::als, hl, h=>by
  rw [List.flatten_cons, List.flatten_cons]
  exact (h 0 r x rfl rfl).append (fzl_flat (by simpa using hl) fun i r x h1 h2=>h (i+1) r x h1 h2)
 | [], _::_, hl, _=>by simp at hl
 | _::_, [], hl, _=>by simp at hl
theorem FzL.le {k k' m:Nat} {t:Tr AB} {Mu:List Nat} (hk:k≤k'):∀ {vs al:List AV}, FzL k t m Mu vs al→FzL k' t m Mu vs al
 | [], [], _=>trivial
 | _::_, _::_, h=>⟨h.1.le hk, FzL.le hk h.2⟩
 | [], _::_, h=>h.elim
 | _::_, [], h=>h.elim
theorem CpO.later {S:List SheetD} {t t':Tr AB} {m m' ob:Nat} {Mu:List Nat} {tp tv vv aT aV ov:AV} {nbO:Nat} {rs:List (List AV)} {nbs:List Nat} {i:Nat} (h:CpO S t m ob Mu tp tv vv aT aV ov nbO rs nbs i) (hm:m≤m') (hk:∀ x, x<m→t'.get (up .e x)=t.get (up .e x)):CpO S t' m' ob Mu tp tv vv aT aV ov nbO rs nbs i:=by
 have ag:Agr t t' m Mu:=fun x hx _=>hk x hx
 exact { h with
  out:=(hk ob (h.Mb ob h.Mo)).trans h.out
  gr:=h.gr.keep hm (fun _ h2=>hk nbO h2)
  row:=fun k s row nb h1 h2 h3=>by
   have hr:=h.row k s row nb h1 h2 h3
   obtain ⟨_, _, _, _, _, _, _, _, _, _, _, h6⟩:=id hr
   exact hr.step hm ag (fun i hi=>.inl hi) (fun i hi=>hi) (fun h0=>hk nb (h6 h0))
  zt:=h.zt.step hm ag (fun i hi=>.inl hi)
  zv:=h.zv.step hm ag (fun i hi=>.inl hi)
  Mb:=fun x hx=>Nat.lt_of_lt_of_le (h.Mb x hx) hm }
theorem RowC.fz {t:Tr AB} {m:Nat} {Mu:List Nat} {s:SheetD} {row:List AV} {nb:Nat} (h:RowC t m Mu s row nb):FzL 3 t m [] row (sheetC { cpSh s with subs:=⟨0, s.subs.l.map cpSu++[]⟩ }):=by
 obtain ⟨p, w, y, j, u, rfl, h1, h2, h3, h4, h5, _⟩:=h
 have hM:∀ i∈([]:List Nat), i∈Mu:=fun i h=>by cases h
 refine ⟨Fz.of rfl rfl, (h1.mono hM).le (by omega), (h2.mono hM).le (by omega), h3.mono hM, (h4.mono hM).le (by omega), ?_, trivial⟩
 rw [List.append_nil]
 exact h5.fz hM (fun _ h=>by cases h)
theorem q5_law {X:Ctx} {f:Nat} {S:List SheetD} {t:Tr AB} {m ob:Nat} {Mu:List Nat} {tp tv vv aT aV ov:AV} {O:Nat} {rs:List (List AV)} {nbs:List Nat} (h:CpO S t m ob Mu tp tv vv aT aV ov O rs nbs S.length) {a b:Nat} (ha:a<S.length) (hb:b≤a) (hS:S.length≤100) (hsub:∀ s∈S, s.subs.l.length≤100)
  (hnm:∀ k s, S[k]?=some s→s.nm=sheetN.getD k []) {fr:Tr AV} {c:Nat} (g6:fr.get t6=some (.ptr (up .e c) 0)) (g7:fr.get t7=some (.int .i64 (.ofNat a))) (g8:fr.get t8=some (.int .i64 (.ofNat b))) (ac:t.get (up .e c)=some (.cells [tp, ov, tv, vv] false)) (hc:c<m) (hcM:c∉Mu) (hnc:∀ (k:Nat) s nb, S[k]?=some s→nbs[k]?=some nb→0<s.subs.l.length→nb≠c)
  (htp:Fz 0 t m Mu tp tp) :
  ∃ fr' m' t' u', execA X (callN X f) c5_q5 ⟨fr, [], ⟨up .e m, t, .lf⟩, .no, none, t5⟩=.nrm ⟨fr', [], ⟨up .e m', t', .lf⟩, .no, none, t5⟩∧m<m'∧KeepF [t5, t6] fr fr'∧t'.get (up .e c)=some (.cells [tp, ov, tv, vv] false)∧FzL 5 t' m' [] [tp, ov, tv, vv] [tp, slV sheetC ⟨0, S.mapIdx (lpSh a b)⟩, aT, aV]∧u'=0:=by
 have hl:=h.len
 have hln:=h.nlen
 obtain ⟨row, hrow⟩:∃ row, rs[a]?=some row:=⟨_, List.getElem?_eq_getElem (by omega)⟩
 obtain ⟨sa, hsa⟩:∃ s, S[a]?=some s:=⟨_, List.getElem?_eq_getElem (by omega)⟩
 obtain ⟨na, hna⟩:∃ nb, nbs[a]?=some nb:=⟨_, List.getElem?_eq_getElem (by omega)⟩
 obtain ⟨rowb, hrowb⟩:∃ row, rs[b]?=some row:=⟨_, List.getElem?_eq_getElem (by omega)⟩
 obtain ⟨sb, hsb⟩:∃ s, S[b]?=some s:=⟨_, List.getElem?_eq_getElem (by omega)⟩
 obtain ⟨nbb, hnbb⟩:∃ nb, nbs[b]?=some nb:=⟨_, List.getElem?_eq_getElem (by omega)⟩
 obtain ⟨p, w, y, j, u, rfl, z1, z2, z3, z4, zu, zn⟩:=h.row a sa row na hsa hrow hna
 obtain ⟨p', w', y', j', u', rfl, _⟩:=h.row b sb rowb nbb hsb hrowb hnbb
 have hlen:=h.rlen (Nat.le_refl _)
 have hfl:∀ k, k≤rs.length→((rs.take k).flatten).length=k*6:=fun k hk=>by
  have:=rows_len (Rw:=fun r=>r.length=6) (fun _ h=>h) (rs.take k) (fun r hr=>hlen r (List.mem_of_mem_take hr))
  rw [this, List.length_take, Nat.min_eq_left hk]
 obtain ⟨hov, aO, hO1, hO2⟩:ov=.slc (up .e O) 0 S.length 6 none∧t.get (up .e O)=some (.cells rs.flatten true)∧1≤O∧O<m:=by
  rcases h.gr with ⟨h1, _⟩ | ⟨_, h2, h3, h4, h5⟩
  ·rw [h1] at hl; simp at hl; omega
  ·exact ⟨by rw [h2, hl], h3, h4, h5⟩
 have h0:0<S.length:=by omega
 have hOM:=h.MO h0
 have hua:takeD rs.flatten (a*6+5) 1=some [u]:=by
  rw [flat_at hrow]
  exact takeD_mid (x:=[.str sa.nm, p, w, y, j]) (y:=[]) (by rw [hfl a (by omega)]; rfl)
 have hub:takeD rs.flatten (b*6) 1=some [.str sb.nm]:=by
  rw [flat_at hrowb]
  exact takeD_mid (x:=[]) (y:=[p', w', y', j', u']) (by rw [hfl b (by omega)]; rfl)
 have hset:∀ v:AV, setAt rs.flatten (a*6+5) [v]=some ((rs.set a [.str sa.nm, p, w, y, j, v]).flatten):=fun v=>by
  rw [flat_at hrow, flat_set hrow]
  have:=setAt_mid (A:=(rs.take a).flatten++[.str sa.nm, p, w, y, j]) (Q:=(rs.drop (a+1)).flatten) (v:=u) (w:=v) (k:=a*6+5) (by rw [List.length_append, hfl a (by omega)]; rfl)
  simpa using this
 have hia:∀ k, k=a∨k=b→indexAddrA (.slc 6) (.slc (up .e O) 0 S.length 6 none) (.int .i64 (.ofNat k))=some (.ptr (up .e O) (k*6)):=fun k hk=>by
  have h1:leI 0 (.ofNat k)=true:=rfl
  have h2:ltI (.ofNat k) (.ofNat S.length)=true:=by rw [ltI_dec]; exact decide_eq_true (by omega)
  have h3:Nat.beq 6 6=true:=rfl
  simp only [indexAddrA, h1, h2, h3, Bool.and_self, cond_true, Nat.zero_add, Int.toNat]
 have hrl:((sa.subs.l.map cpSu).map subC).length=sa.subs.l.length:=by simp
 have hsl:=hsub sa (List.mem_of_getElem? hsa)
 obtain ⟨fr', m', t', v, nb', e, hm, kf, qc, qO, hG, hnb', hk⟩:=q5_run (X:=X) (f:=f) (F':=fun v=>(rs.set a [.str sa.nm, p, w, y, j, v]).flatten) g6 g7 g8 ac hov aO hia hua hub hset zu hc hO2 (fun e=>hcM (e▸hOM)) hOM (by omega) (fun h0=>by
  rw [hrl] at h0
  exact ⟨hnc a sa na hsa hna h0, (h.sep a sa na hsa hna h0).2, zn h0⟩) (by rw [hrl]; omega)
 refine ⟨fr', m', t', 0, e, hm, kf, qc, ?_, rfl⟩
 have ag:Agr t t' m Mu:=fun i hi hn=>hk i hi (fun e=>hn (e▸hOM)) (fun h0 e=>hn (by rw [e]; exact zu.mem h0))
 have hM1:∀ i∈nb'::Mu, i∈Mu∨m≤i:=fun i hi=>by
  rcases List.mem_cons.1 hi with h | h
  ·exact .inr (by omega)
  ·exact .inl h
 have nil1:∀ i∈([]:List Nat), i∈Mu∨m≤i:=fun i h=>by cases h
 have nilM:∀ i∈([]:List Nat), i∈nb'::Mu:=fun i h=>by cases h
 have hrows:FzL 3 t' m' [] (rs.set a [.str sa.nm, p, w, y, j, v]).flatten (((S.mapIdx (lpSh a b)).map sheetC).flatten):=by
  refine fzl_flat (by simp [hl]) fun k r x h1 h2 => ?_
  rw [List.getElem?_map, List.getElem?_mapIdx] at h2
  simp only [Option.map_map, Option.map_eq_some_iff] at h2
  obtain ⟨s, hs, rfl⟩:=h2
  by_cases hka:k=a
  ·subst hka
   rw [hsa] at hs
   cases hs
   rw [List.getElem?_set_self (by omega)] at h1
   cases h1
   simp only [Function.comp_apply, lpSh, if_true]
   refine ⟨Fz.of rfl rfl, (z1.step (by omega) ag nil1).le (by omega), (z2.step (by omega) ag nil1).le (by omega), z3.step (by omega) ag nil1, (z4.step (by omega) ag nil1).le (by omega), ?_, trivial⟩
   have hG':GrowF 2 t' m' (nb'::Mu) 3 nb' v ((sa.subs.l.map cpSu++[loopU b]).map subC):=by
    rw [List.map_append]
    have e1:([loopU b]:List SubD).map subC=[[.str loopB, .str sb.nm, .nils]]:=by
     rw [hnm b sb hsb]
     rfl
    rw [e1]
    exact hG
   exact hG'.fz nilM (fun _ h=>by cases h)
  ·rw [List.getElem?_set_ne (fun e=>hka e.symm)] at h1
   obtain ⟨nk, hnk⟩:∃ nb, nbs[k]?=some nb:=⟨_, List.getElem?_eq_getElem (by have:=(List.getElem?_eq_some_iff.1 h1).1; omega)⟩
   have hr:=h.row k s r nk hs h1 hnk
   obtain ⟨_, _, _, _, _, _, _, _, _, _, _, h6⟩:=id hr
   have hr':=hr.step (t':=t') (m':=m') (Mu':=nb'::Mu) (by omega) ag hM1 (fun i hi=>List.mem_cons_of_mem _ hi) (fun h0=>hk nk (h6 h0) (h.sep k s nk hs hnk h0).2 (fun h1 e=>by
    rw [hrl] at h1
    rcases Nat.lt_or_gt_of_ne hka with h2 | h2
    ·exact h.dis k a s sa nk na h2 hs hsa hnk hna h0 h1 e
    ·exact h.dis a k sa s na nk h2 hsa hs hna hnk h1 h0 e.symm))
   have:=hr'.fz
   simp only [Function.comp_apply, lpSh, hka, if_false]
   exact this
 have hne:S.mapIdx (lpSh a b)≠[]:=fun e=>by
  have:=congrArg List.length e
  rw [List.length_mapIdx] at this
  simp only [List.length_nil] at this
  omega
 have hrl':((rs.set a [.str sa.nm, p, w, y, j, v]).flatten).length=S.length*6:=by
  have:=rows_len (Rw:=fun r=>r.length=6) (fun _ h=>h) (rs.set a [.str sa.nm, p, w, y, j, v]) (fun r hr=>by
   rcases List.mem_or_eq_of_mem_set hr with h | h
   ·exact hlen r h
   ·rw [h]; rfl)
  rw [this, List.length_set, hl]
 have zov:Fz 4 t' m' [] ov (slV sheetC ⟨0, S.mapIdx (lpSh a b)⟩):=by
  rw [hov, slV_ne sheetC (s:=⟨0, S.mapIdx (lpSh a b)⟩) hne 1, slV_rslc, List.length_mapIdx, List.flatMap_def]
  exact Fz.slc qO (by omega) (fun h=>by cases h) (takeD_all hrl') hrows
 exact ⟨(htp.step (by omega) ag nil1).le (by omega), zov.le (by omega), (h.zt.step (by omega) ag nil1).le (by omega), (h.zv.step (by omega) ag nil1).le (by omega), trivial⟩
end Go.Abs.Sym
end
end
