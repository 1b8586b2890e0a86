/- Copy of a design: a slice is copied. -/
import Derived.Test.YtipcmdllhllolaaGreatDoorK35
import Derived.Test.YtipcmdllhllolaaGreatDoorK05
noncomputable section
section
namespace Go.Abs.Sym
open Go.Abs.T
open Go.Proofs
variable {X:Ctx}
theorem big_no {n b:Nat} (hn:n≤1000001) (hb:b≤1000):(Nat.ble bigBytes (n*b)||Nat.ble bigBytes n)=false:=by
 have h1:n*b≤1000001*1000:=Nat.mul_le_mul hn hb
 have h2:Nat.ble bigBytes (n*b)=false:=by
  rw [nble]
  have hB:1000001000<bigBytes:=by decide
  exact decide_eq_false (by omega)
 have h3:Nat.ble bigBytes n=false:=by
  rw [nble]
  have hB:1000001000<bigBytes:=by decide
  exact decide_eq_false (by omega)
 rw [h2, h3]
 rfl
theorem ones_app:∀ {a b:List AV}, Abs.ones a=true→Abs.ones b=true→Abs.ones (a++b)=true
 | [], _, _, h=>h
 | x::a, b, h, h'=>by
  simp only [Abs.ones, Bool.and_eq_true] at h
  simp only [List.cons_append, Abs.ones, h.1, ones_app h.2 h', Bool.and_self]
theorem frzs_app:∀ {a b:List AV}, Abs.frzs a=true→Abs.frzs b=true→Abs.frzs (a++b)=true
 | [], _, _, h=>h
 | x::a, b, h, h'=>by
  simp only [Abs.frzs, Bool.and_eq_true] at h
  simp only [List.cons_append, Abs.frzs, h.1, frzs_app h.2 h', Bool.and_self]
section
variable {α:Type} {f:α→List AV}
theorem ones_flat (ho:∀ a, Abs.ones (f a)=true):∀ l:List α, Abs.ones (l.flatMap f)=true
 | []=>rfl
 | a::l=>by rw [List.flatMap_cons]; exact ones_app (ho a) (ones_flat ho l)
theorem cp_app {sz by_:Nat} (hf:∀ a, (f a).length=sz) (hz:∀ a, Abs.frzs (f a)=true) (ho:∀ a, Abs.ones (f a)=true) {m x:Nat} {t:Tr AB} {s:Sl α} {A:Option (AV×H)} {sp:Bool}
  (hA:appendA ⟨up .e m, t, .lf⟩ sz by_ (.slc (up .e x) 0 0 sz (some 0)) (slV f s)=A) (hx:t.get (up .e x)=some (.cells [] sp)) (hxm:x<m) (hb:by_≤1000) (hn:s.l.length≤1000) :
  ∃ j v t', j≤1∧A=some (v, ⟨up .e (m+j), t', .lf⟩)∧(∀ i, i<m→t'.get (up .e i)=t.get (up .e i))∧v.one=true∧∀ Mu, x∉Mu→(∀ i∈Mu, i<m)→Fz 1 t' (m+j) Mu v (slV f ⟨1, s.l⟩):=by
 obtain ⟨kd, l⟩:=s
 have e0:Nat.beq sz sz=true:=Nat.beq_refl sz
 cases l with
 | nil =>
  have h1:lenA (slV f ⟨kd, []⟩)=some 0:=by cases kd<;>rfl
  have h2:firstA ⟨up .e m, t, .lf⟩ sz 0 (slV f ⟨kd, []⟩)=some []:=by
   cases kd with
   | zero=>rfl
   | succ k =>
    show firstA _ sz 0 (.rslc 0 [])=some []
    simp only [firstA, Nat.zero_mul]
    rfl
  refine ⟨0, .slc (up .e x) 0 0 sz (some 0), t, by omega, by
   rw [← hA]
   simp only [appendA, h1, h2, e0, cond_true, Nat.beq, Nat.add_zero], fun _ _=>rfl, rfl, fun Mu hM hb => ?_⟩
  exact Fz.slc (k:=0) (l:=[]) (al:=[]) hx (by omega) hM (by rw [Nat.zero_mul]; rfl) trivial
 | cons a l =>
  have hlen:((a::l).flatMap f).length=(a::l).length*sz:=len_flat hf _
  have h1:lenA (slV f ⟨kd, a::l⟩)=some (l.length+1):=rfl
  have h2:firstA ⟨up .e m, t, .lf⟩ sz (l.length+1) (slV f ⟨kd, a::l⟩)=some ((a::l).flatMap f):=by
   show firstA _ sz (l.length+1) (.rslc (l.length+1) (f a++l.flatMap f))=_
   have e:Nat.ble (l.length+1) (l.length+1)=true:=by rw [nble]; exact decide_eq_true (Nat.le_refl _)
   simp only [firstA, e, cond_true]
   exact takeD_all hlen
  have e1:Nat.beq (l.length+1) 0=false:=rfl
  have e2:=big_no (n:=0+(l.length+1)) (b:=by_) (by simp only [List.length_cons] at hn; omega) hb
  have e3:Nat.ble (0+(l.length+1)) 0=false:=by rw [nble]; exact decide_eq_false (by omega)
  have e4:H.cellsAt ⟨up .e m, t, .lf⟩ (up .e x)=some []:=cellsAt_t hx
  have e5:takeD [] 0 (0*sz)=some ([]:List AV):=by rw [Nat.zero_mul]; rfl
  refine ⟨1, .slc (up .e m) 0 (0+(l.length+1)) sz none, t.put (up .e m) (.cells ((a::l).flatMap f) true), Nat.le_refl _, ?_, fun i hi => ?_, rfl, fun Mu hM hb => ?_⟩
  ·rw [← hA]
   simp only [appendA, h1, h2, e0, e1, e2, e3, e4, e5, cond_true, cond_false, H.newB, up_succ, List.nil_append]
  ·rw [gp, if_neg (fun e=>by rw [up_inj] at e; omega)]
  ·have hz':Abs.frzs ((a::l).flatMap f)=true:=frzs_flat hz (a::l)
   have ho':=ones_flat ho (a::l)
   have:=Fz.slc (k:=0) (n:=0+(l.length+1)) (sz:=sz) (c:=none) (off:=0) (t:=t.put (up .e m) (.cells ((a::l).flatMap f) true)) (m:=m+1) (Mu:=Mu) (b:=m) (sp:=true) (cs:=(a::l).flatMap f) (l:=(a::l).flatMap f) (al:=(a::l).flatMap f) (by rw [gp, if_pos rfl]) (by omega) (fun h=>by have:=hb m h; omega) (takeD_all (by rw [hlen, List.length_cons, Nat.zero_add])) (FzL.of ho' hz')
   simp only [Nat.zero_add] at this ⊢
   exact this
end
theorem ones_bs (s:Bs):Abs.ones (bsC s)=true:=rfl
theorem ones_join (x:JoinD):Abs.ones (joinC x)=true:=rfl
theorem ones_bind (x:BindD):Abs.ones (bindC x)=true:=rfl
theorem ones_sym (x:SymD):Abs.ones (symC x)=true:=by simp only [symC, Abs.ones, on_slV, on_str, Bool.and_self]
theorem ones_sub (x:SubD):Abs.ones (subC x)=true:=by simp only [subC, Abs.ones, on_slV, on_str, Bool.and_self]
theorem ones_ty (x:TypD):Abs.ones (tyC x)=true:=by simp only [tyC, Abs.ones, on_slV, on_str, Bool.and_self]
theorem cells_one {v:AV} (h:v.one=true):v.cells=[v]:=by
 cases v<;>first | rfl | cases h
def cpL {α:Type} (s:Sl α):Sl α:=⟨1, s.l⟩
def cpSy (x:SymD):SymD:=⟨x.ref, x.ty, cpL x.nots⟩
def cpSu (x:SubD):SubD:=⟨x.nm, x.sh, cpL x.binds⟩
def cpSh (s:SheetD):SheetD:=⟨s.nm, cpL s.ports, cpL s.power, ⟨0, s.syms.l.map cpSy⟩, cpL s.joins, ⟨0, s.subs.l.map cpSu⟩⟩
def desA (d:DesD):List AV:=[.str d.top, slV sheetC d.sheets, slV tyC d.types, slV bsC d.variants]
theorem cp_head {f:Nat} {d:DesD} (ht:d.types.l.length≤1000) (hv:d.variants.l.length≤1000) {fr:Tr AV} {m bx:Nat} {t:Tr AB} (hbx:bx<m) (g1:fr.get t1=some (.ptr (up .e bx) 0)) (a0:t.get (up .e bx)=some (.cells (desC d) false)) :
  ∃ fr' m' t' tv vv, execA X (callN X f) (.dreg [⟨⟨s11, .fieldAddr 0, [v1], none⟩, false, 0, 12, true, [], false⟩, ⟨⟨s12, .load none, [v11], none⟩, false, 0, 12, true, [], false⟩, ⟨⟨s13, .buildSl 0 3 [] [], [], none⟩, false, 0, 5, false, [], false⟩, ⟨⟨s14, .fieldAddr 2, [v1], none⟩, false, 0, 5, false, [], false⟩, ⟨⟨s15, .load none, [v14], none⟩, false, 0, 5, false, [], false⟩, ⟨⟨s16, .append 3 64 false, [v13, v15], none⟩, true, 0, 9, true, [2], false⟩, ⟨⟨s17, .buildSl 0 1 [] [], [], none⟩, false, 0, 9, true, [], false⟩, ⟨⟨s18, .fieldAddr 3, [v1], none⟩, false, 0, 9, true, [], false⟩, ⟨⟨s19, .load none, [v18], none⟩, false, 0, 9, true, [], false⟩, ⟨⟨s20, .append 1 16 false, [v17, v19], none⟩, true, 6, 12, true, [2, 6], false⟩, ⟨⟨s21, .build [e0, .nils, .nils, .nils] [(0, 1), (2, 1), (3, 1)], [v12, v16, v20], none⟩, false, 10, 12, false, [2, 6], false⟩, ⟨⟨s3, .alloc [e0, .nils, .nils, .nils], [], none⟩, false, 0, 12, true, [], false⟩, ⟨⟨none, .store 4, [v3, v21], none⟩, true, 10, 13, true, [2, 6, 11], true⟩])
   ⟨fr, [], ⟨up .e m, t, .lf⟩, .no, none, t14⟩=.nrm ⟨fr', [], ⟨up .e m', t', .lf⟩, .no, none, t14⟩∧m+13≤m'∧KeepF [t1, t2] fr fr'∧fr'.get t3=some (.ptr (up .e (m+11)) 0)∧t'.get (up .e (m+11))=some (.cells [.str d.top, .nils, tv, vv] false) ∧
   (∀ i, i<m→t'.get (up .e i)=t.get (up .e i))∧∀ Mu, (∀ i∈Mu, i<m∨i=m+11)→Fz 1 t' m' Mu tv (slV tyC (cpL d.types))∧Fz 1 t' m' Mu vv (slV bsC (cpL d.variants)):=by
 have a0':=a0
 simp only [desC] at a0'
 have n5:=nz hbx
 have n50:=nz0 hbx
 simp +decide only [SF,Nat.reduceAdd,Nat.reduceLeDiff,g1,a0',tkP_c,lvP_c,withP_c,cont_c,cont_n,dopsA]
 generalize hA:appendA _ 3 64 _ _=A
 have hQ:=cp_app (f:=tyC) (fun _=>rfl) frz_ty ones_ty hA (x:=m+2) (sp:=false) (by rw [gp, if_pos rfl]) (by omega) (by decide) ht
 obtain ⟨j, tv, u, hj, hA2, hk, ho1, hz⟩:=hQ
 subst hA2
 have u0:u.get (up .e bx)=some (.cells [.str d.top, slV sheetC d.sheets, slV tyC d.types, slV bsC d.variants] false):=(hk bx (by omega)).trans (by rw [gp, if_neg (fun e=>by rw [up_inj] at e; omega)]; exact a0')
 simp +decide only [SF,g1,u0,tkP_c,lvP_c,withP_c,cont_c,cont_n]
 generalize hB:appendA _ 1 16 _ _=B
 have hQ:=cp_app (f:=bsC) (fun _=>rfl) frz_bs ones_bs hB (x:=m+6) (sp:=false) (by rw [gp, if_pos rfl]) (by omega) (by decide) hv
 obtain ⟨j2, vv, w, hj2, hB2, hk2, ho2, hz2⟩:=hQ
 subst hB2
 have w0:w.get (up .e bx)=some (.cells [.str d.top, slV sheetC d.sheets, slV tyC d.types, slV bsC d.variants] false):=(hk2 bx (by omega)).trans (by rw [gp, if_neg (fun e=>by rw [up_inj] at e; omega)]; exact u0)
 have c1:=cells_one ho1
 have c2:=cells_one ho2
 simp +decide only [SF,Nat.reduceAdd,Nat.reduceLeDiff,u0,a0',w0,n5,ho1,ho2,c1,c2]
 refine ⟨_, m+(13+(j+j2)), _, tv, vv, rfl, by omega, ?_, ?_, ?_, fun i hi => ?_, fun Mu hM => ?_⟩
 ·simp +decide only [KeepF_put]
  exact fun _ _=>rfl
 ·simp +decide only [gp,if_true,if_false]
 ·simp +decide only [gp,if_true]
 ·rw [gp, if_neg (fun e=>by rw [up_inj] at e; omega), gp, if_neg (fun e=>by rw [up_inj] at e; omega), hk2 i (by omega), gp, if_neg (fun e=>by rw [up_inj] at e; omega), hk i (by omega), gp, if_neg (fun e=>by rw [up_inj] at e; omega)]
 ·have e1:∀ i∈(m+11)::(m+6)::Mu, i<m∨i=m+11∨i=m+6:=fun i hi=>by
   simp only [List.mem_cons] at hi
   rcases hi with h | h | h
   ·exact .inr (.inl h)
   ·exact .inr (.inr h)
   ·rcases hM i h with h | h
    ·exact .inl h
    ·exact .inr (.inl h)
  have s1:∀ i∈(m+11)::Mu, i∈(m+11)::(m+6)::Mu:=fun i hi=>by
   simp only [List.mem_cons] at hi ⊢
   rcases hi with h | h<;>simp only [h, true_or, or_true]
  have q1:=hz ((m+11)::(m+6)::Mu) (fun h=>by have:=e1 _ h; omega) (fun i hi=>by have:=e1 i hi; omega)
  have q2:=hz2 ((m+11)::Mu) (fun h=>by
   simp only [List.mem_cons] at h
   rcases h with h | h
   ·omega
   ·have:=hM _ h; omega) (fun i hi=>by have:=e1 i (s1 i hi); omega)
  have a1:=(q1.step (Nat.le_refl _) ((Agr.refl u _ _).put (.inl (by simp)) (.cells [] false)) (fun i hi=>.inl hi)).step (t':=w) (m':=m+(13+j)+j2) (Mu':=(m+11)::Mu) (by omega) (fun i hi _=>hk2 i (by omega)) (fun i hi=>.inl (s1 i hi))
  have b1:=fun (v a:AV) (x y:AB) (q:Fz 1 w (m+(13+j)+j2) ((m+11)::Mu) v a)=>q.step (t':=(w.put (up .e (m+11)) x).put (up .e (m+11)) y) (Mu':=Mu) (Nat.le_refl _) (((Agr.refl w _ _).put (.inl (by simp)) x).put (.inl (by simp)) y) (fun i hi=>.inl (List.mem_cons_of_mem _ hi))
  have em:m+(13+j)+j2=m+(13+(j+j2)):=by omega
  have r1:=b1 _ _ (.cells [e0, .nils, .nils, .nils] false) (.cells [.str d.top, .nils, tv, vv] false) a1
  have r2:=b1 _ _ (.cells [e0, .nils, .nils, .nils] false) (.cells [.str d.top, .nils, tv, vv] false) q2
  rw [em] at r1 r2
  exact ⟨r1, r2⟩
end Go.Abs.Sym
end
section
namespace Go.Abs.Sym
open Go.Abs.T
open Go.Proofs
variable {X:Ctx}
theorem cp_p0 {f:Nat} {d:DesD} {i:Nat} {s:SheetD} (hi:d.sheets.l[i]?=some s) {fr:Tr AV} {m bx:Nat} {t:Tr AB} (g1:fr.get t1=some (.ptr (up .e bx) 0)) (g4:fr.get t4=some (.int .i64 (.ofNat i))) (a0:t.get (up .e bx)=some (.cells (desC d) false)) (_h0:bx<m) :
  ∃ fr' t', execA X (callN X f) c14_p0 ⟨fr, [], ⟨up .e m, t, .lf⟩, .no, none, t14⟩=.nrm ⟨fr', [], ⟨up .e (m+1), t', .lf⟩, .no, none, t14⟩∧KeepF [t1, t2, t3, t4] fr fr'∧fr'.get t5=some (.ptr (up .e m) 0)∧t'.get (up .e m)=some (.cells (sheetC s) false) ∧
   ∀ i, i<m→t'.get (up .e i)=t.get (up .e i):=by
 have ia:=at_slV (f:=sheetC) (sz:=6) len_sheet (by decide) hi
 simp only [desC] at a0
 simp +decide only [c14_p0,SF,Nat.reduceAdd,g1,g4,a0,ia,sheetC]
 refine ⟨_, _, rfl, ?_, ?_, ?_, fun i hi => ?_⟩
 ·simp +decide only [KeepF_put]
  exact fun _ _=>rfl
 ·simp +decide only [gp, if_true, reduceIte]
 ·simp +decide only [gp,if_true]
 ·rw [gp, if_neg (fun e=>by rw [up_inj] at e; omega), gp, if_neg (fun e=>by rw [up_inj] at e; omega)]
set_option maxHeartbeats 1000000 in
theorem cp_p1 {f:Nat} {s:SheetD} (hp:s.ports.l.length≤1000) (hw:s.power.l.length≤1000) (hjn:s.joins.l.length≤1000) {fr:Tr AV} {m m5:Nat} {t:Tr AB} (g5:fr.get t5=some (.ptr (up .e m5) 0)) (a5:t.get (up .e m5)=some (.cells (sheetC s) false)) (h5:m5<m) :
  ∃ fr' m' t' pv wv jv, execA X (callN X f) c14_p1 ⟨fr, [], ⟨up .e m, t, .lf⟩, .no, none, t14⟩=.nrm ⟨fr', [], ⟨up .e m', t', .lf⟩, .no, none, t14⟩∧m+17≤m'∧KeepF [t1, t2, t3, t4, t5] fr fr'∧fr'.get t6=some (.ptr (up .e (m+15)) 0) ∧
   t'.get (up .e (m+15))=some (.cells [.str s.nm, pv, wv, .nils, jv, .nils] false)∧(∀ i, i<m→t'.get (up .e i)=t.get (up .e i)) ∧
   ∀ Mu, (∀ i∈Mu, i<m∨i=m+15)→Fz 1 t' m' Mu pv (slV bsC (cpL s.ports))∧Fz 1 t' m' Mu wv (slV bsC (cpL s.power))∧Fz 1 t' m' Mu jv (slV joinC (cpL s.joins)):=by
 simp only [sheetC] at a5
 have n5:=nz h5
 have n50:=nz0 h5
 simp +decide only [c14_p1,SF,Nat.reduceAdd,Nat.reduceLeDiff,g5,a5,tkP_c,lvP_c,withP_c,cont_c,cont_n,dopsA]
 generalize hA:appendA _ 1 16 _ _=A
 have hQ:=cp_app (f:=bsC) (fun _=>rfl) frz_bs ones_bs hA (x:=m+2) (sp:=false) (by rw [gp, if_pos rfl]) (by omega) (by decide) hp
 obtain ⟨j, pv, u, hj, hA2, hk, ho1, hz⟩:=hQ
 subst hA2
 have u5:u.get (up .e m5)=some (.cells [.str s.nm, slV bsC s.ports, slV bsC s.power, slV symC s.syms, slV joinC s.joins, slV subC s.subs] false):=(hk m5 (by omega)).trans (by rw [gp, if_neg (fun e=>by rw [up_inj] at e; omega)]; exact a5)
 simp +decide only [SF,g5,u5,tkP_c,lvP_c,withP_c,cont_c,cont_n]
 generalize hB:appendA _ 1 16 _ _=B
 have hQ:=cp_app (f:=bsC) (fun _=>rfl) frz_bs ones_bs hB (x:=m+6) (sp:=false) (by rw [gp, if_pos rfl]) (by omega) (by decide) hw
 obtain ⟨j2, wv, w, hj2, hB2, hk2, ho2, hz2⟩:=hQ
 subst hB2
 have w5:w.get (up .e m5)=some (.cells [.str s.nm, slV bsC s.ports, slV bsC s.power, slV symC s.syms, slV joinC s.joins, slV subC s.subs] false):=(hk2 m5 (by omega)).trans (by rw [gp, if_neg (fun e=>by rw [up_inj] at e; omega)]; exact u5)
 simp +decide only [SF,g5,w5,tkP_c,lvP_c,withP_c,cont_c,cont_n]
 generalize hC:appendA _ 3 48 _ _=C
 have hQ:=cp_app (f:=joinC) (fun _=>rfl) frz_join ones_join hC (x:=m+10) (sp:=false) (by rw [gp, if_pos rfl]) (by omega) (by decide) hjn
 obtain ⟨j3, jv, z, hj3, hC2, hk3, ho3, hz3⟩:=hQ
 subst hC2
 have z5:z.get (up .e m5)=some (.cells [.str s.nm, slV bsC s.ports, slV bsC s.power, slV symC s.syms, slV joinC s.joins, slV subC s.subs] false):=(hk3 m5 (by omega)).trans (by rw [gp, if_neg (fun e=>by rw [up_inj] at e; omega)]; exact w5)
 have c1:=cells_one ho1
 have c2:=cells_one ho2
 have c3:=cells_one ho3
 simp +decide only [SF,Nat.reduceAdd,Nat.reduceLeDiff,a5,u5,w5,z5,n5,ho1,ho2,ho3,c1,c2,c3]
 refine ⟨_, m+(17+(j+(j2+j3))), _, pv, wv, jv, rfl, by omega, ?_, ?_, ?_, fun i hi => ?_, fun Mu hM => ?_⟩
 ·simp +decide only [KeepF_put]
  exact fun _ _=>rfl
 ·simp +decide only [gp, if_true, reduceIte]
 ·simp +decide only [gp,if_true]
 ·rw [gp, if_neg (fun e=>by rw [up_inj] at e; omega), gp, if_neg (fun e=>by rw [up_inj] at e; omega), hk3 i (by omega), gp, if_neg (fun e=>by rw [up_inj] at e; omega), hk2 i (by omega), gp, if_neg (fun e=>by rw [up_inj] at e; omega), hk i (by omega), gp, if_neg (fun e=>by rw [up_inj] at e; omega)]
 ·have e1:∀ i∈(m+15)::(m+10)::(m+6)::Mu, i<m∨i=m+15∨i=m+10∨i=m+6:=fun i hi=>by
   simp only [List.mem_cons] at hi
   rcases hi with h | h | h | h
   ·exact .inr (.inl h)
   ·exact .inr (.inr (.inl h))
   ·exact .inr (.inr (.inr h))
   ·rcases hM i h with h | h
    ·exact .inl h
    ·exact .inr (.inl h)
  have q1:=hz ((m+15)::(m+10)::(m+6)::Mu) (fun h=>by have:=e1 _ h; omega) (fun i hi=>by have:=e1 i hi; omega)
  have s1:∀ i∈(m+15)::(m+10)::Mu, i∈(m+15)::(m+10)::(m+6)::Mu:=fun i hi=>by
   simp only [List.mem_cons] at hi ⊢
   rcases hi with h | h | h<;>simp only [h, true_or, or_true]
  have s2:∀ i∈(m+15)::Mu, i∈(m+15)::(m+10)::Mu:=fun i hi=>by
   simp only [List.mem_cons] at hi ⊢
   rcases hi with h | h<;>simp only [h, true_or, or_true]
  have q2:=hz2 ((m+15)::(m+10)::Mu) (fun h=>by
   simp only [List.mem_cons] at h
   rcases h with h | h | h
   ·omega
   ·omega
   ·have:=hM _ h; omega) (fun i hi=>by have:=e1 i (s1 i hi); omega)
  have q3:=hz3 ((m+15)::Mu) (fun h=>by
   simp only [List.mem_cons] at h
   rcases h with h | h
   ·omega
   ·have:=hM _ h; omega) (fun i hi=>by have:=e1 i (s1 i (s2 i hi)); omega)
  have a1:=(q1.step (Nat.le_refl _) ((Agr.refl u _ _).put (.inl (by simp)) (.cells [] false)) (fun i hi=>.inl hi)).step (t':=w) (m':=m+(17+j)+j2) (Mu':=(m+15)::(m+10)::Mu) (by omega) (fun i hi _=>hk2 i (by omega)) (fun i hi=>.inl (s1 i hi))
  have b1:=fun (v a:AV) (q:Fz 1 w (m+(17+j)+j2) ((m+15)::(m+10)::Mu) v a)=>(q.step (Nat.le_refl _) ((Agr.refl w _ _).put (.inl (by simp)) (.cells [] false)) (fun i hi=>.inl hi)).step (t':=z) (m':=m+(17+(j+j2))+j3) (Mu':=(m+15)::Mu) (by omega) (fun i hi _=>hk3 i (by omega)) (fun i hi=>.inl (s2 i hi))
  have c1:=fun (v a:AV) (x y:AB) (q:Fz 1 z (m+(17+(j+j2))+j3) ((m+15)::Mu) v a)=>q.step (t':=(z.put (up .e (m+15)) x).put (up .e (m+15)) y) (Mu':=Mu) (Nat.le_refl _) (((Agr.refl z _ _).put (.inl (by simp)) x).put (.inl (by simp)) y) (fun i hi=>.inl (List.mem_cons_of_mem _ hi))
  have em:m+(17+(j+j2))+j3=m+(17+(j+(j2+j3))):=by omega
  have r1:=c1 _ _ (.cells [e0, .nils, .nils, .nils, .nils, .nils] false) (.cells [.str s.nm, pv, wv, .nils, jv, .nils] false) (b1 _ _ a1)
  have r2:=c1 _ _ (.cells [e0, .nils, .nils, .nils, .nils, .nils] false) (.cells [.str s.nm, pv, wv, .nils, jv, .nils] false) (b1 _ _ q2)
  have r3:=c1 _ _ (.cells [e0, .nils, .nils, .nils, .nils, .nils] false) (.cells [.str s.nm, pv, wv, .nils, jv, .nils] false) q3
  rw [em] at r1 r2 r3
  exact ⟨r1, r2, r3⟩
end Go.Abs.Sym
end
section
namespace Go.Abs.Sym
open Go.Abs.T
open Go.Proofs
variable {X:Ctx}
def cpR:List Pth:=[t1, t2, t3, t4, t5, t6]
def CyI (s:SheetD) (m6 m0:Nat) (u0:Tr AB) (fr0:Tr AV) (Mu0:List Nat) (pv wv jv uv:AV) (r:Nat) (st:St):Prop:=∃ fr m t k nb sv Mu, st=⟨fr, [], ⟨up .e m, t, .lf⟩, .no, none, t14⟩∧k+r=s.syms.l.length∧m0≤m∧KeepF cpR fr0 fr ∧
 fr.get t7=some (.int .i64 (.ofNat k))∧t.get (up .e m6)=some (.cells [.str s.nm, pv, wv, sv, jv, uv] false)∧GrowF 2 t m Mu 3 nb sv ((s.syms.l.take k).map fun x=>symC (cpSy x))∧(∀ i∈Mu0, i∈Mu)∧(∀ i∈Mu, i∈Mu0∨m0≤i∧i<m) ∧
 (0<k→m0≤nb∧nb<m)∧∀ i, i<m0→i≠m6→t.get (up .e i)=u0.get (up .e i)
theorem map_take_snoc {α β:Type} {g:α→β} {l:List α} {k:Nat} {x:α} (h:l[k]?=some x):(l.take (k+1)).map g=(l.take k).map g++[g x]:=by
 rw [List.take_add_one, h]
 simp
set_option maxHeartbeats 1000000 in
theorem cy_round {f:Nat} {s:SheetD} (hls:s.syms.l.length≤1000) (hln:∀ x∈s.syms.l, x.nots.l.length≤1000) {m5 m6 m0:Nat} {u0:Tr AB} {fr0:Tr AV} {Mu0:List Nat} {pv wv jv uv:AV} (g5:fr0.get t5=some (.ptr (up .e m5) 0)) (g6:fr0.get t6=some (.ptr (up .e m6) 0))
  (a5:u0.get (up .e m5)=some (.cells (sheetC s) false)) (h5:m5<m0) (h6:m6<m0) (h56:m5≠m6) (hM6:m6∈Mu0) (hb:∀ i∈Mu0, i<m0) (r:Nat) (st:St) (h:CyI s m6 m0 u0 fr0 Mu0 pv wv jv uv r st) :
  Stp (CyI s m6 m0 u0 fr0 Mu0 pv wv jv uv) (fun o=>∃ st, o=.exit 2 st∧CyI s m6 m0 u0 fr0 Mu0 pv wv jv uv 0 st) r (execA X (callN X f) c14_l0 st):=by
 obtain ⟨fr, m, t, k, nb, sv, Mu, rfl, hk, hm, kf, g7, t6', hG, hMu, hMb, hnb, hfr⟩:=h
 have k5:=(kf t5 (by simp [cpR])).trans g5
 have k6:=(kf t6 (by simp [cpR])).trans g6
 have b5:=(hfr m5 h5 h56).trans a5
 simp only [sheetC] at b5
 cases r with
 | zero =>
  have hkn:(k<s.syms.l.length)=False:=eq_false (by omega)
  simp +decide only [c14_l0,SF,k5,b5,g7,len_slV,ltI_dec,hkn,stp_e]
  refine ⟨_, rfl, _, m, t, k, nb, sv, Mu, rfl, hk, hm, ?_, ?_, t6', hG, hMu, hMb, hnb, hfr⟩
  ·simp +decide only [KeepF_put]
   exact kf
  ·simp +decide only [gp,g7,if_false]
 | succ r =>
  have hkn:(k<s.syms.l.length)=True:=eq_true (by omega)
  obtain ⟨x, hka⟩:∃ x, s.syms.l[k]?=some x:=⟨_, List.getElem?_eq_getElem (by omega)⟩
  have ia:=at_slV (f:=symC) (sz:=3) len_sym (by decide) hka
  have hw:=wr_add k 1 (by omega)
  have n5:=nz (show m5<m by omega)
  have n50:=nz0 (show m5<m by omega)
  have n6:=nz (show m6<m by omega)
  have n60:=nz0 (show m6<m by omega)
  have n56:(m5=m6)=False:=eq_false h56
  have n65:(m6=m5)=False:=eq_false (fun e=>h56 e.symm)
  have hlx:=hln x (List.mem_of_getElem? hka)
  have em1:(m=m+1)=False:=eq_false (by omega)
  simp +decide only [c14_l0,SF,Nat.reduceAdd,k5,b5,g7,len_slV,ltI_dec,hkn,ia,symC,em1]
  generalize hA:appendA _ 1 16 _ _=A
  have hQ:=cp_app (f:=bsC) (fun _=>rfl) frz_bs ones_bs hA (x:=m+1) (sp:=false) (by rw [gp, if_pos rfl]) (by omega) (by decide) hlx
  obtain ⟨j, nv, u, hj, hA2, hk1, ho1, hz⟩:=hQ
  subst hA2
  have c1:=cells_one ho1
  have um:u.get (up .e m)=some (.cells [.str x.ref, .str x.ty, slV bsC x.nots] false):=by
   have e1:(m=m+1)=False:=eq_false (by omega)
   rw [hk1 m (by omega)]
   simp only [gp, up_inj, e1, if_false, if_true]
  have hkt:∀ i, i<m→u.get (up .e i)=t.get (up .e i):=fun i hi=>by
   have e1:(i=m)=False:=eq_false (by omega)
   have e2:(i=m+1)=False:=eq_false (by omega)
   rw [hk1 i (by omega)]
   simp only [gp, up_inj, e1, e2, if_false]
  have u6:u.get (up .e m6)=some (.cells [.str s.nm, pv, wv, sv, jv, uv] false):=(hkt m6 (by omega)).trans t6'
  have hag0:Agr t u m Mu:=fun i hi hn=>hkt i hi
  have em2:(m=m+(2+j))=False:=eq_false (by omega)
  have em3:(m6=m+(2+j))=False:=eq_false (by omega)
  simp +decide only [SF,Nat.reduceAdd,k6,um,u6,n60,c1,ho1]
  generalize hB:appendA _ 3 56 _ _=B
  -- the grown list of symbols, ahead of the append
  have hMm:∀ i∈Mu, i<m:=fun i hi=>by
   rcases hMb i hi with h | h
   ·have:=hb i h; omega
   ·exact h.2
  have hz1:=hz (m::Mu) (fun h=>by
   rcases List.mem_cons.1 h with h | h
   ·omega
   ·have:=hMm _ h; omega) (fun i hi=>by
   rcases List.mem_cons.1 hi with h | h
   ·omega
   ·have:=hMm _ h; omega)
  have hE:∃ T:Tr AB, T=(u.put (up .e m) (.cells [.str x.ref, .str x.ty, nv] false)).put (up .e (m+(2+j))) (.cells [.str x.ref, .str x.ty, nv] false):=⟨_, rfl⟩
  obtain ⟨T, hT⟩:=hE
  rw [← hT] at hB ⊢
  have hTo:∀ i, i<m→T.get (up .e i)=u.get (up .e i):=fun i hi=>by rw [hT, gp, if_neg (fun e=>by rw [up_inj] at e; omega), gp, if_neg (fun e=>by rw [up_inj] at e; omega)]
  have hG1:GrowF 2 T (m+(2+(j+1))) (m::Mu) 3 nb sv ((s.syms.l.take k).map fun x=>symC (cpSy x)):=hG.step (by omega) (fun i hi hn=>(hTo i hi).trans (hag0 i hi hn)) (fun h0 hb'=>by
   exact (hTo nb hb').trans (hkt nb hb')) (fun i hi=>by
   rcases List.mem_cons.1 hi with h | h
   ·exact .inr (by omega)
   ·exact .inl h) (fun h=>List.mem_cons_of_mem _ h)
  have hzT:Fz 1 T (m+(2+(j+1))) (m::Mu) nv (slV bsC (cpL x.nots)):=by
   refine hz1.step (by omega) ?_ (fun i hi=>.inl hi)
   rw [hT]
   exact ((Agr.refl u _ _).put (.inl (by simp)) _).put (.inr (by omega)) _
  have hQ:=hG1.append (row:=[.str x.ref, .str x.ty, nv]) (ra:=symC (cpSy x)) (x:=m+(2+j)) (sp:=false) hB (by rw [hT, gp, if_pos rfl])
   ⟨(Fz.of rfl rfl), (Fz.of rfl rfl), hzT.le (by omega), trivial⟩ rfl (by decide) (by rw [List.length_map, List.length_take]; omega) (by omega)
  obtain ⟨t2, hB2, d1, d2⟩:=hQ
  subst hB2
  have hlen:((s.syms.l.take k).map fun x=>symC (cpSy x)).length=k:=by rw [List.length_map, List.length_take]; omega
  have q6:t2.get (up .e m6)=some (.cells [.str s.nm, pv, wv, sv, jv, uv] false):=by
   rw [d1 m6 (by omega) (fun h e=>by rw [hlen] at h; have:=(hnb h).1; omega), hTo m6 (by omega)]
   exact u6
  simp +decide only [SF,Nat.reduceAdd,k6,q6,g7,hw,stp_n]
  refine ⟨r, by omega, _, m+(2+(j+2)), _, k+1, m+(2+(j+1)), .slc (up .e (m+(2+(j+1)))) 0 (((s.syms.l.take k).map fun x=>symC (cpSy x)).length+1) 3 none, (m+(2+(j+1)))::m::Mu, rfl, by omega, by omega, ?_, ?_, ?_, ?_, fun i hi=>List.mem_cons_of_mem _ (List.mem_cons_of_mem _ (hMu i hi)), fun i hi => ?_, fun _=>⟨by omega, by omega⟩, fun i hi hi6 => ?_⟩
  ·simp +decide only [KeepF_put]
   exact kf
  ·simp +decide only [gp, if_true, reduceIte]
  ·rw [gp, if_pos rfl]
  ·rw [map_take_snoc hka]
   have em:m+(2+(j+2))=m+(2+(j+1))+1:=by omega
   rw [em]
   exact d2.step (Nat.le_refl _) ((Agr.refl t2 _ _).put (.inl (List.mem_cons_of_mem _ (List.mem_cons_of_mem _ (hMu _ hM6)))) _) (fun _ _=>by rw [gp, if_neg (fun e=>by rw [up_inj] at e; omega)]) (fun i hi=>.inl hi) id
  ·rcases List.mem_cons.1 hi with h | h
   ·exact .inr (by omega)
   ·rcases List.mem_cons.1 h with h | h
    ·exact .inr (by omega)
    ·rcases hMb i h with h | h
     ·exact .inl h
     ·exact .inr (by omega)
  ·rw [gp, if_neg (fun e=>by rw [up_inj] at e; omega), d1 i (by omega) (fun h e=>by rw [hlen] at h; have:=(hnb h).1; omega), hTo i (by omega), hkt i (by omega)]
   exact hfr i hi hi6
theorem cp_p2 (hfu:X.fuel=100000) {f:Nat} {s:SheetD} (hls:s.syms.l.length≤1000) (hln:∀ x∈s.syms.l, x.nots.l.length≤1000) {m5 m6 m0:Nat} {u0:Tr AB} {fr0:Tr AV} {Mu0:List Nat} {pv wv jv uv:AV} (g5:fr0.get t5=some (.ptr (up .e m5) 0)) (g6:fr0.get t6=some (.ptr (up .e m6) 0))
  (a5:u0.get (up .e m5)=some (.cells (sheetC s) false)) (a6:u0.get (up .e m6)=some (.cells [.str s.nm, pv, wv, .nils, jv, uv] false)) (h5:m5<m0) (h6:m6<m0) (h56:m5≠m6) (hM6:m6∈Mu0) (hb:∀ i∈Mu0, i<m0) :
  ∃ fr m t nb sv Mu, execA X (callN X f) c14_p2 ⟨fr0, [], ⟨up .e m0, u0, .lf⟩, .no, none, t14⟩=.nrm ⟨fr, [], ⟨up .e m, t, .lf⟩, .no, none, t14⟩∧m0≤m∧KeepF cpR fr0 fr∧t.get (up .e m6)=some (.cells [.str s.nm, pv, wv, sv, jv, uv] false) ∧
   GrowF 2 t m Mu 3 nb sv ((s.syms.l.map cpSy).map symC)∧(∀ i∈Mu0, i∈Mu)∧(∀ i∈Mu, i∈Mu0∨m0≤i∧i<m)∧(0<s.syms.l.length→m0≤nb∧nb<m)∧∀ i, i<m0→i≠m6→t.get (up .e i)=u0.get (up .e i):=by
 have key:∃ fr m t k nb sv Mu, iterA (execA X (callN X f) c14_l0) 100000 ⟨fr0.put t7 i0, [], ⟨up .e m0, u0, .lf⟩, .no, none, t14⟩=.exit 2 ⟨fr, [], ⟨up .e m, t, .lf⟩, .no, none, t14⟩∧k+0=s.syms.l.length∧m0≤m∧KeepF cpR (fr0.put t7 i0) fr ∧
   fr.get t7=some (.int .i64 (.ofNat k))∧t.get (up .e m6)=some (.cells [.str s.nm, pv, wv, sv, jv, uv] false)∧GrowF 2 t m Mu 3 nb sv ((s.syms.l.take k).map fun x=>symC (cpSy x))∧(∀ i∈Mu0, i∈Mu)∧(∀ i∈Mu, i∈Mu0∨m0≤i∧i<m) ∧
   (0<k→m0≤nb∧nb<m)∧∀ i, i<m0→i≠m6→t.get (up .e i)=u0.get (up .e i):=by
  obtain ⟨st, e, fr, m, t, k, nb, sv, Mu, rfl, h⟩:=iter_rule (CyI s m6 m0 u0 (fr0.put t7 i0) Mu0 pv wv jv uv) (fun o=>∃ st, o=.exit 2 st∧CyI s m6 m0 u0 (fr0.put t7 i0) Mu0 pv wv jv uv 0 st)
   (fun r st h=>cy_round (f:=f) hls hln (by simp +decide only [gp,g5,if_false]) (by simp +decide only [gp,g6,if_false]) a5 h5 h6 h56 hM6 hb r st h) 100000 s.syms.l.length ⟨fr0.put t7 i0, [], ⟨up .e m0, u0, .lf⟩, .no, none, t14⟩
   ⟨fr0.put t7 i0, m0, u0, 0, 0, .nils, Mu0, rfl, Nat.zero_add _, Nat.le_refl _, fun _ _=>rfl, by rw [gp, if_pos rfl], a6, GrowF.nil, fun _ h=>h, fun _ h=>.inl h, (fun h=>absurd h (Nat.lt_irrefl 0)), fun _ _ _=>rfl⟩ (by omega)
  exact ⟨fr, m, t, k, nb, sv, Mu, e, h⟩
 obtain ⟨fr, m, t, k, nb, sv, Mu, e, hk, hm, kf, _, q6, hG, hMu, hMb, hnb, hfr⟩:=key
 refine ⟨fr, m, t, nb, sv, Mu, ?_, hm, ?_, q6, ?_, hMu, hMb, fun h=>hnb (by omega), hfr⟩
 ·simp +decide only [c14_p2,SF,hfu,e]
 ·exact fun p hp=>(kf p hp).trans (by
   rw [gp, if_neg]
   intro e
   subst e
   simp +decide  at hp)
 ·have:s.syms.l.take k=s.syms.l:=List.take_of_length_le (by omega)
  rw [this] at hG
  rw [List.map_map]
  exact hG
end Go.Abs.Sym
end
section
namespace Go.Abs.Sym
open Go.Abs.T
open Go.Proofs
variable {X:Ctx}
def CuI (s:SheetD) (m6 m0:Nat) (u0:Tr AB) (fr0:Tr AV) (Mu0:List Nat) (pv wv jv uv:AV) (r:Nat) (st:St):Prop:=∃ fr m t k nb sv Mu, st=⟨fr, [], ⟨up .e m, t, .lf⟩, .no, none, t14⟩∧k+r=s.subs.l.length∧m0≤m∧KeepF cpR fr0 fr ∧
 fr.get t9=some (.int .i64 (.ofNat k))∧t.get (up .e m6)=some (.cells [.str s.nm, pv, wv, uv, jv, sv] false)∧GrowF 2 t m Mu 3 nb sv ((s.subs.l.take k).map fun x=>subC (cpSu x))∧(∀ i∈Mu0, i∈Mu)∧(∀ i∈Mu, i∈Mu0∨m0≤i∧i<m) ∧
 (0<k→m0≤nb∧nb<m)∧∀ i, i<m0→i≠m6→t.get (up .e i)=u0.get (up .e i)
set_option maxHeartbeats 1000000 in
theorem cu_round {f:Nat} {s:SheetD} (hls:s.subs.l.length≤1000) (hln:∀ x∈s.subs.l, x.binds.l.length≤1000) {m5 m6 m0:Nat} {u0:Tr AB} {fr0:Tr AV} {Mu0:List Nat} {pv wv jv uv:AV} (g5:fr0.get t5=some (.ptr (up .e m5) 0)) (g6:fr0.get t6=some (.ptr (up .e m6) 0))
  (a5:u0.get (up .e m5)=some (.cells (sheetC s) false)) (h5:m5<m0) (h6:m6<m0) (h56:m5≠m6) (hM6:m6∈Mu0) (hb:∀ i∈Mu0, i<m0) (r:Nat) (st:St) (h:CuI s m6 m0 u0 fr0 Mu0 pv wv jv uv r st) :
  Stp (CuI s m6 m0 u0 fr0 Mu0 pv wv jv uv) (fun o=>∃ st, o=.exit 4 st∧CuI s m6 m0 u0 fr0 Mu0 pv wv jv uv 0 st) r (execA X (callN X f) c14_l1 st):=by
 obtain ⟨fr, m, t, k, nb, sv, Mu, rfl, hk, hm, kf, g9, t6', hG, hMu, hMb, hnb, hfr⟩:=h
 have k5:=(kf t5 (by simp [cpR])).trans g5
 have k6:=(kf t6 (by simp [cpR])).trans g6
 have b5:=(hfr m5 h5 h56).trans a5
 simp only [sheetC] at b5
 cases r with
 | zero =>
  have hkn:(k<s.subs.l.length)=False:=eq_false (by omega)
  simp +decide only [c14_l1,SF,k5,b5,g9,len_slV,ltI_dec,hkn,stp_e]
  refine ⟨_, rfl, _, m, t, k, nb, sv, Mu, rfl, hk, hm, ?_, ?_, t6', hG, hMu, hMb, hnb, hfr⟩
  ·simp +decide only [KeepF_put]
   exact kf
  ·simp +decide only [gp,g9,if_false]
 | succ r =>
  have hkn:(k<s.subs.l.length)=True:=eq_true (by omega)
  obtain ⟨x, hka⟩:∃ x, s.subs.l[k]?=some x:=⟨_, List.getElem?_eq_getElem (by omega)⟩
  have ia:=at_slV (f:=subC) (sz:=3) len_sub (by decide) hka
  have hw:=wr_add k 1 (by omega)
  have n5:=nz (show m5<m by omega)
  have n50:=nz0 (show m5<m by omega)
  have n6:=nz (show m6<m by omega)
  have n60:=nz0 (show m6<m by omega)
  have n56:(m5=m6)=False:=eq_false h56
  have n65:(m6=m5)=False:=eq_false (fun e=>h56 e.symm)
  have hlx:=hln x (List.mem_of_getElem? hka)
  have em1:(m=m+1)=False:=eq_false (by omega)
  simp +decide only [c14_l1,SF,Nat.reduceAdd,k5,b5,g9,len_slV,ltI_dec,hkn,ia,subC,em1]
  generalize hA:appendA _ 2 32 _ _=A
  have hQ:=cp_app (f:=bindC) (fun _=>rfl) frz_bind ones_bind hA (x:=m+1) (sp:=false) (by rw [gp, if_pos rfl]) (by omega) (by decide) hlx
  obtain ⟨j, nv, u, hj, hA2, hk1, ho1, hz⟩:=hQ
  subst hA2
  have c1:=cells_one ho1
  have um:u.get (up .e m)=some (.cells [.str x.nm, .str x.sh, slV bindC x.binds] false):=by
   have e1:(m=m+1)=False:=eq_false (by omega)
   rw [hk1 m (by omega)]
   simp only [gp, up_inj, e1, if_false, if_true]
  have hkt:∀ i, i<m→u.get (up .e i)=t.get (up .e i):=fun i hi=>by
   have e1:(i=m)=False:=eq_false (by omega)
   have e2:(i=m+1)=False:=eq_false (by omega)
   rw [hk1 i (by omega)]
   simp only [gp, up_inj, e1, e2, if_false]
  have u6:u.get (up .e m6)=some (.cells [.str s.nm, pv, wv, uv, jv, sv] false):=(hkt m6 (by omega)).trans t6'
  have hag0:Agr t u m Mu:=fun i hi hn=>hkt i hi
  have em2:(m=m+(2+j))=False:=eq_false (by omega)
  have em3:(m6=m+(2+j))=False:=eq_false (by omega)
  simp +decide only [SF,Nat.reduceAdd,k6,um,u6,n60,c1,ho1]
  generalize hB:appendA _ 3 56 _ _=B
  -- the grown list of symbols, ahead of the append
  have hMm:∀ i∈Mu, i<m:=fun i hi=>by
   rcases hMb i hi with h | h
   ·have:=hb i h; omega
   ·exact h.2
  have hz1:=hz (m::Mu) (fun h=>by
   rcases List.mem_cons.1 h with h | h
   ·omega
   ·have:=hMm _ h; omega) (fun i hi=>by
   rcases List.mem_cons.1 hi with h | h
   ·omega
   ·have:=hMm _ h; omega)
  have hE:∃ T:Tr AB, T=(u.put (up .e m) (.cells [.str x.nm, .str x.sh, nv] false)).put (up .e (m+(2+j))) (.cells [.str x.nm, .str x.sh, nv] false):=⟨_, rfl⟩
  obtain ⟨T, hT⟩:=hE
  rw [← hT] at hB ⊢
  have hTo:∀ i, i<m→T.get (up .e i)=u.get (up .e i):=fun i hi=>by rw [hT, gp, if_neg (fun e=>by rw [up_inj] at e; omega), gp, if_neg (fun e=>by rw [up_inj] at e; omega)]
  have hG1:GrowF 2 T (m+(2+(j+1))) (m::Mu) 3 nb sv ((s.subs.l.take k).map fun x=>subC (cpSu x)):=hG.step (by omega) (fun i hi hn=>(hTo i hi).trans (hag0 i hi hn)) (fun h0 hb'=>by
   exact (hTo nb hb').trans (hkt nb hb')) (fun i hi=>by
   rcases List.mem_cons.1 hi with h | h
   ·exact .inr (by omega)
   ·exact .inl h) (fun h=>List.mem_cons_of_mem _ h)
  have hzT:Fz 1 T (m+(2+(j+1))) (m::Mu) nv (slV bindC (cpL x.binds)):=by
   refine hz1.step (by omega) ?_ (fun i hi=>.inl hi)
   rw [hT]
   exact ((Agr.refl u _ _).put (.inl (by simp)) _).put (.inr (by omega)) _
  have hQ:=hG1.append (row:=[.str x.nm, .str x.sh, nv]) (ra:=subC (cpSu x)) (x:=m+(2+j)) (sp:=false) hB (by rw [hT, gp, if_pos rfl])
   ⟨(Fz.of rfl rfl), (Fz.of rfl rfl), hzT.le (by omega), trivial⟩ rfl (by decide) (by rw [List.length_map, List.length_take]; omega) (by omega)
  obtain ⟨t2, hB2, d1, d2⟩:=hQ
  subst hB2
  have hlen:((s.subs.l.take k).map fun x=>subC (cpSu x)).length=k:=by rw [List.length_map, List.length_take]; omega
  have q6:t2.get (up .e m6)=some (.cells [.str s.nm, pv, wv, uv, jv, sv] false):=by
   rw [d1 m6 (by omega) (fun h e=>by rw [hlen] at h; have:=(hnb h).1; omega), hTo m6 (by omega)]
   exact u6
  simp +decide only [SF,Nat.reduceAdd,k6,q6,g9,hw,stp_n]
  refine ⟨r, by omega, _, m+(2+(j+2)), _, k+1, m+(2+(j+1)), .slc (up .e (m+(2+(j+1)))) 0 (((s.subs.l.take k).map fun x=>subC (cpSu x)).length+1) 3 none, (m+(2+(j+1)))::m::Mu, rfl, by omega, by omega, ?_, ?_, ?_, ?_, fun i hi=>List.mem_cons_of_mem _ (List.mem_cons_of_mem _ (hMu i hi)), fun i hi => ?_, fun _=>⟨by omega, by omega⟩, fun i hi hi6 => ?_⟩
  ·simp +decide only [KeepF_put]
   exact kf
  ·simp +decide only [gp, if_true, reduceIte]
  ·rw [gp, if_pos rfl]
  ·rw [map_take_snoc hka]
   have em:m+(2+(j+2))=m+(2+(j+1))+1:=by omega
   rw [em]
   exact d2.step (Nat.le_refl _) ((Agr.refl t2 _ _).put (.inl (List.mem_cons_of_mem _ (List.mem_cons_of_mem _ (hMu _ hM6)))) _) (fun _ _=>by rw [gp, if_neg (fun e=>by rw [up_inj] at e; omega)]) (fun i hi=>.inl hi) id
  ·rcases List.mem_cons.1 hi with h | h
   ·exact .inr (by omega)
   ·rcases List.mem_cons.1 h with h | h
    ·exact .inr (by omega)
    ·rcases hMb i h with h | h
     ·exact .inl h
     ·exact .inr (by omega)
  ·rw [gp, if_neg (fun e=>by rw [up_inj] at e; omega), d1 i (by omega) (fun h e=>by rw [hlen] at h; have:=(hnb h).1; omega), hTo i (by omega), hkt i (by omega)]
   exact hfr i hi hi6
theorem cp_p3 (hfu:X.fuel=100000) {f:Nat} {s:SheetD} (hls:s.subs.l.length≤1000) (hln:∀ x∈s.subs.l, x.binds.l.length≤1000) {m5 m6 m0:Nat} {u0:Tr AB} {fr0:Tr AV} {Mu0:List Nat} {pv wv jv uv:AV} (g5:fr0.get t5=some (.ptr (up .e m5) 0)) (g6:fr0.get t6=some (.ptr (up .e m6) 0))
  (a5:u0.get (up .e m5)=some (.cells (sheetC s) false)) (a6:u0.get (up .e m6)=some (.cells [.str s.nm, pv, wv, uv, jv, .nils] false)) (h5:m5<m0) (h6:m6<m0) (h56:m5≠m6) (hM6:m6∈Mu0) (hb:∀ i∈Mu0, i<m0) :
  ∃ fr m t nb sv Mu, execA X (callN X f) c14_p3 ⟨fr0, [], ⟨up .e m0, u0, .lf⟩, .no, none, t14⟩=.nrm ⟨fr, [], ⟨up .e m, t, .lf⟩, .no, none, t14⟩∧m0≤m∧KeepF cpR fr0 fr∧t.get (up .e m6)=some (.cells [.str s.nm, pv, wv, uv, jv, sv] false) ∧
   GrowF 2 t m Mu 3 nb sv ((s.subs.l.map cpSu).map subC)∧(∀ i∈Mu0, i∈Mu)∧(∀ i∈Mu, i∈Mu0∨m0≤i∧i<m)∧(0<s.subs.l.length→m0≤nb∧nb<m)∧∀ i, i<m0→i≠m6→t.get (up .e i)=u0.get (up .e i):=by
 have key:∃ fr m t k nb sv Mu, iterA (execA X (callN X f) c14_l1) 100000 ⟨fr0.put t9 i0, [], ⟨up .e m0, u0, .lf⟩, .no, none, t14⟩=.exit 4 ⟨fr, [], ⟨up .e m, t, .lf⟩, .no, none, t14⟩∧k+0=s.subs.l.length∧m0≤m∧KeepF cpR (fr0.put t9 i0) fr ∧
   fr.get t9=some (.int .i64 (.ofNat k))∧t.get (up .e m6)=some (.cells [.str s.nm, pv, wv, uv, jv, sv] false)∧GrowF 2 t m Mu 3 nb sv ((s.subs.l.take k).map fun x=>subC (cpSu x))∧(∀ i∈Mu0, i∈Mu)∧(∀ i∈Mu, i∈Mu0∨m0≤i∧i<m) ∧
   (0<k→m0≤nb∧nb<m)∧∀ i, i<m0→i≠m6→t.get (up .e i)=u0.get (up .e i):=by
  obtain ⟨st, e, fr, m, t, k, nb, sv, Mu, rfl, h⟩:=iter_rule (CuI s m6 m0 u0 (fr0.put t9 i0) Mu0 pv wv jv uv) (fun o=>∃ st, o=.exit 4 st∧CuI s m6 m0 u0 (fr0.put t9 i0) Mu0 pv wv jv uv 0 st)
   (fun r st h=>cu_round (f:=f) hls hln (by simp +decide only [gp,g5,if_false]) (by simp +decide only [gp,g6,if_false]) a5 h5 h6 h56 hM6 hb r st h) 100000 s.subs.l.length ⟨fr0.put t9 i0, [], ⟨up .e m0, u0, .lf⟩, .no, none, t14⟩
   ⟨fr0.put t9 i0, m0, u0, 0, 0, .nils, Mu0, rfl, Nat.zero_add _, Nat.le_refl _, fun _ _=>rfl, by rw [gp, if_pos rfl], a6, GrowF.nil, fun _ h=>h, fun _ h=>.inl h, (fun h=>absurd h (Nat.lt_irrefl 0)), fun _ _ _=>rfl⟩ (by omega)
  exact ⟨fr, m, t, k, nb, sv, Mu, e, h⟩
 obtain ⟨fr, m, t, k, nb, sv, Mu, e, hk, hm, kf, _, q6, hG, hMu, hMb, hnb, hfr⟩:=key
 refine ⟨fr, m, t, nb, sv, Mu, ?_, hm, ?_, q6, ?_, hMu, hMb, fun h=>hnb (by omega), hfr⟩
 ·simp +decide only [c14_p3,SF,hfu,e]
 ·exact fun p hp=>(kf p hp).trans (by
   rw [gp, if_neg]
   intro e
   subst e
   simp +decide  at hp)
 ·have:s.subs.l.take k=s.subs.l:=List.take_of_length_le (by omega)
  rw [this] at hG
  rw [List.map_map]
  exact hG
end Go.Abs.Sym
end
end
