/- The law of paths: its inner loop. -/
import Derived.Test.YtipcmdllhllolaaGreatDoorP41
section
namespace Go.Abs.Sym
open Go.Abs.T
open Go.Proofs
def elF (p:Bs):List Bs:=((elemsP.find? fun e=>decide (p=e.1)).map (·.2)).getD []
def upF (p:Bs):Bs:=((upP.find? fun e=>decide ((elF p).take ((elF p).length - 1)=e.1)).map (·.2)).getD []
def goodI (P:List Bs) (i:Nat):Bool:=match P[i]? with
 | none=>false
 | some p=>decide ((p,elF p)∈elemsP)&&decide (0<(elF p).length)&&decide ((elF p).length<1000)&&decide (((elF p).take ((elF p).length - 1),upF p)∈upP)&&(P.take i).all (fun q => !eqS q p)&&(P.take i).any (fun q=>eqS q (upF p))
def goodP (P:List Bs):Bool:=decide (P.length<1000)&&decide (P[0]?=some [])&&(List.range P.length).all fun i=>decide (i=0)||goodI P i
theorem good_shapes:shapes.all (fun s=>goodP (pathsL s.2.1 s.2.2))=true:=by decide
structure GoodI (P:List Bs) (i:Nat) (p:Bs):Prop where
 at_:P[i]?=some p
 el:(p,elF p)∈elemsP
 ne:0<(elF p).length
 lt:(elF p).length<1000
 up:((elF p).take ((elF p).length - 1),upF p)∈upP
 df:∀ k q,k<i→P[k]?=some q→eqS q p=false
 any:(P.take i).any (fun q=>eqS q (upF p))=true
theorem good_at {P:List Bs} (h:goodP P=true) {i:Nat} (hi:i<P.length) (h1:1≤i):∃ p,GoodI P i p:=by
 simp only [goodP,Bool.and_eq_true] at h
 have h2:=List.all_eq_true.1 h.2 i (List.mem_range.2 hi)
 simp only [Bool.or_eq_true,decide_eq_true_eq] at h2
 have h3:goodI P i=true:=h2.resolve_left (by omega)
 unfold goodI at h3
 cases hp:P[i]? with
 | none=>rw [hp] at h3; cases h3
 | some p =>
  rw [hp] at h3
  simp only [Bool.and_eq_true,decide_eq_true_eq] at h3
  obtain ⟨⟨⟨⟨⟨a1,a2⟩,a3⟩,a4⟩,a5⟩,a6⟩:=h3
  refine ⟨p,hp,a1,a2,a3,a4,fun k q hk hq => ?_,a6⟩
  have:=List.all_eq_true.1 a5 q (List.mem_iff_getElem?.2 ⟨k,by rw [List.getElem?_take_of_lt hk]; exact hq⟩)
  simpa using this
section
variable {T0 T1:TypD} {E:CkE} {w:AV}
theorem splitH {f:Nat} {s:Bs} {l:List Bs} (hs:(s,l)∈elemsP) (h:H):callN (KH T0 T1 E w) (f+1) (g t11) [.str s] h=.ret (.tup [slV bsC ⟨1,l⟩,.bool true]) h :=
 call_sum (by rw [List.nil_append,List.append_nil]; exact split_sum hs h)
theorem pathH {f:Nat} {s:Bs} {l:List Bs} (hs:(l,s)∈upP) (h:H):callN (KH T0 T1 E w) (f+1) (g t12) [slV bsC ⟨1,l⟩] h=.ret (.str s) h :=
 call_sum (by rw [List.nil_append,List.append_nil]; exact path_sum hs h)
end
theorem wr_sub1 (n:Nat) (h:0<n) (h2:n<1000000):wrapA .i64 (Int.ofNat n - Int.ofNat 1)=.ofNat (n - 1):=by
 have:Int.ofNat n - Int.ofNat 1=Int.ofNat (n - 1):=by
  simp only [Int.ofNat_eq_natCast]
  omega
 rw [this]
 exact wrap_small (by omega)
def lwR:List Pth:=[t3,t4,t5,t6,t7,t8]
def LwI (P:List Bs) (p:Bs) (i:Nat) (fr0:Tr AV) (t:Tr AB) (r:Nat) (s:St):Prop:=∃ fr k m,s=⟨fr,[],⟨up .e m,t,.lf⟩,.no,none,t4⟩∧k+r=i∧KeepF lwR fr0 fr ∧
 fr.get t10=some (.bool ((P.take k).any fun q=>eqS q (upF p)))∧fr.get t11=some (.int .i64 (.ofNat k))
theorem lw_round {T0 T1:TypD} {E:CkE} {w:AV} {P:List Bs} {p:Bs} {i:Nat} (gd:GoodI P i p) (hl:P.length<1000) {fr0:Tr AV} {t:Tr AB} (g5:fr0.get t5=some (slV bsC ⟨1,P⟩)) (g7:fr0.get t7=some (.int .i64 (.ofNat i))) (g8:fr0.get t8=some (slV bsC ⟨1,elF p⟩)) (r:Nat) (s:St) (h:LwI P p i fr0 t r s) :
  Stp (LwI P p i fr0 t) (fun o=>∃ s,o=.exit 2 s∧LwI P p i fr0 t 0 s) r (execA (KH T0 T1 E w) (callN (KH T0 T1 E w) 49) c4_l0 s):=by
 obtain ⟨fr,k,m,rfl,hk,kf,g10,g11⟩:=h
 have hil:i<P.length:=by
  rcases Nat.lt_or_ge i P.length with h | h
  ·exact h
  ·have:=gd.at_; rw [List.getElem?_eq_none h] at this; cases this
 have f5:=(kf t5 (by simp [lwR])).trans g5
 have f7:=(kf t7 (by simp [lwR])).trans g7
 have f8:=(kf t8 (by simp [lwR])).trans g8
 cases r with
 | zero =>
  have hkn:(k<i)=False:=eq_false (by omega)
  simp +decide only [c4_l0,execA,opsA,wantedA,evalAll,evalA,oneA,st_mov,st_bin,binAV,St.put,Tr.get_put,if_true,if_false,cond_true,nbeq,decide_true,decide_false,eqK,kindNo,f7,g11,ltI_dec,hkn,stp_e]
  refine ⟨_,rfl,_,k,m,rfl,hk,?_,?_,?_⟩
  ·simp +decide only [KeepF_put]
   exact kf
  all_goals simp +decide only [Tr.get_put,g10,g11,if_false]
 | succ r =>
  have hkn:(k<i)=True:=eq_true (by omega)
  obtain ⟨q,hq⟩:∃ q,P[k]?=some q:=⟨_,List.getElem?_eq_getElem (by omega)⟩
  have ia:=at_slV (f:=bsC) (sz:=1) (s:=⟨1,P⟩) len_bs (by decide) hq
  have ib:=at_slV (f:=bsC) (sz:=1) (s:=⟨1,P⟩) len_bs (by decide) gd.at_
  have hw:=wr_add k 1 (by omega)
  have hne:=gd.ne
  have hlt:=gd.lt
  have hws:=wr_sub1 (elF p).length hne (by omega)
  have hdf:=gd.df k q (by omega) hq
  have htk:P.take (k+1)=P.take k++[q]:=by rw [List.take_add_one,hq]; rfl
  have hsl:=slice_slV len_bs (kd:=1) (l:=elF p) (k:=(elF p).length - 1) (fun e=>by rw [e] at hne; exact absurd hne (by decide)) (by omega)
  have hup:∀ h,callN (KH T0 T1 E w) 49 (.fn t12 [] []) [slV bsC ⟨1,(elF p).take ((elF p).length - 1)⟩] h=.ret (.str (upF p)) h:=fun h=>pathH (f:=48) gd.up h
  have hany:(P.take (k+1)).any (fun q=>eqS q (upF p))=((P.take k).any (fun q=>eqS q (upF p))||eqS q (upF p)):=by
   rw [htk,List.any_append]
   simp only [List.any_cons,List.any_nil,Bool.or_false]
  simp only [bsC] at ia ib
  cases hb:(P.take k).any fun q=>eqS q (upF p) with
  | true =>
   rw [hb] at g10 hany
   rw [Bool.true_or] at hany
   simp +decide only [c4_l0,execA,opsA,wantedA,evalAll,evalA,oneA,dregA,dopsA,dstep,isMaker,withP_nil,takesP_nil,leavesP_nil,rd_mov,rd_pick,rd_load,rd_bin,rd_indexAddr,st_mov,st_load,st_bin,st_indexAddr,st_pick,ld_rn,binAV,eqAV,St.put,Tr.get_put,List.nil_append,List.cons_append,if_true,if_false,cond_true,cond_false,Nat.zero_add,skip_up0,up_up,up_succ,List.length,seesHeap,quiet,nbeq,decide_true,Nat.reduceAdd,Bool.and_false,Bool.or_true,Bool.not_true,List.all,eqK,kindNo,Option.map_some,beq_f,Bool.and_self,Nat.add_assoc,f5,f7,g10,g11,ia,ib,hdf,ltI_dec,hkn,hw,stp_n]
   refine ⟨r,by omega,_,k+1,_,rfl,by omega,?_,?_,?_⟩
   ·simp +decide only [KeepF_put]
    exact kf
   all_goals simp +decide only [Tr.get_put,hany,if_true,if_false]
  | false =>
   rw [hb] at g10 hany
   rw [Bool.false_or] at hany
   simp +decide only [c4_l0,execA,opsA,wantedA,evalAll,evalA,oneA,dregA,dopsA,dstep,isMaker,withP_nil,takesP_nil,leavesP_nil,rd_mov,rd_pick,rd_load,rd_bin,rd_slice,rd_indexAddr,rd_len,st_mov,st_load,st_bin,st_call,st_indexAddr,st_pick,st_slice,st_len,ld_rn,binAV,eqAV,St.put,Tr.get_put,List.nil_append,List.cons_append,if_true,if_false,cond_true,cond_false,Nat.zero_add,skip_up0,up_up,up_succ,List.length,seesHeap,quiet,recheck,nbeq,nble,decide_true,Nat.reduceAdd,Bool.and_true,Bool.and_false,Bool.or_true,List.all,eqK,kindNo,Option.map_some,beq_self_eq_true,beq_rfl,Bool.and_self,Nat.add_assoc,f5,f7,f8,g10,g11,ia,ib,hdf,hup,hsl,hws,ltI_dec,hkn,hw,len_slV,stp_n]
   refine ⟨r,by omega,_,k+1,_,rfl,by omega,?_,?_,?_⟩
   ·simp +decide only [KeepF_put]
    exact kf
   all_goals simp +decide only [Tr.get_put,hany,if_true,if_false]
theorem lw_loop {T0 T1:TypD} {E:CkE} {w:AV} {P:List Bs} {p:Bs} {i:Nat} (gd:GoodI P i p) (hl:P.length<1000) {fr:Tr AV} {m:Nat} {t:Tr AB} {o:Out}
  (hit:iterA (execA (KH T0 T1 E w) (callN (KH T0 T1 E w) 49) c4_l0) 100000 ⟨fr,[],⟨up .e m,t,.lf⟩,.no,none,t4⟩=o) (g5:fr.get t5=some (slV bsC ⟨1,P⟩)) (g7:fr.get t7=some (.int .i64 (.ofNat i))) (g8:fr.get t8=some (slV bsC ⟨1,elF p⟩)) (g10:fr.get t10=some (.bool false)) (g11:fr.get t11=some i0) :
  ∃ fr' m',o=.exit 2 ⟨fr',[],⟨up .e m',t,.lf⟩,.no,none,t4⟩∧KeepF lwR fr fr'∧fr'.get t10=some (.bool true):=by
 have hil:i<P.length:=by
  rcases Nat.lt_or_ge i P.length with h | h
  ·exact h
  ·have:=gd.at_; rw [List.getElem?_eq_none h] at this; cases this
 have ho:∃ s,o=.exit 2 s∧LwI P p i fr t 0 s:=by
  rw [← hit]
  exact iter_rule (LwI P p i fr t) (fun o=>∃ s,o=.exit 2 s∧LwI P p i fr t 0 s) (fun r s h=>lw_round gd hl g5 g7 g8 r s h) 100000 i _ ⟨fr,0,m,rfl,Nat.zero_add _,fun _ _=>rfl,g10,g11⟩ (by omega)
 obtain ⟨s,rfl,fr',k,m',rfl,hk,kf,h10,_⟩:=ho
 have:k=i:=by omega
 subst this
 rw [gd.any] at h10
 exact ⟨fr',m',rfl,kf,h10⟩
end Go.Abs.Sym
end
section
namespace Go.Abs.Sym
open Go.Abs.T
open Go.Proofs
def mostL (P:List Bs) (i:Nat):Nat:=((P.take i).drop 1).foldl (fun m p=>max m (elF p).length) 0
theorem mostL_succ {P:List Bs} {i:Nat} {p:Bs} (h1:1≤i) (hp:P[i]?=some p):mostL P (i+1)=max (mostL P i) (elF p).length:=by
 have hi:i<P.length:=by
  rcases Nat.lt_or_ge i P.length with h | h
  ·exact h
  ·rw [List.getElem?_eq_none h] at hp; cases hp
 have:P.take (i+1)=P.take i++[p]:=by rw [List.take_add_one,hp]; rfl
 rw [mostL,this,List.drop_append_of_le_length (by rw [List.length_take]; omega),List.foldl_append]
 rfl
theorem max_nat (a b:Nat):(bif decide (a<b) then Int.ofNat b else .ofNat a)=.ofNat (max a b):=by
 by_cases h:a<b
 ·simp only [h,decide_true,cond_true]
  rw [Nat.max_eq_right (by omega)]
 ·simp only [h,decide_false,cond_false]
  rw [Nat.max_eq_left (by omega)]
def loR:List Pth:=[t3,t4,t5]
def LoI (P:List Bs) (fr0:Tr AV) (t:Tr AB) (r:Nat) (s:St):Prop:=∃ fr m i,s=⟨fr,[],⟨up .e m,t,.lf⟩,.no,none,t4⟩∧i+r=P.length∧1≤i∧KeepF loR fr0 fr ∧
 fr.get t6=some (.int .i64 (.ofNat (mostL P i)))∧fr.get t7=some (.int .i64 (.ofNat i))
theorem lo_round {T0 T1:TypD} {E:CkE} {w:AV} {P:List Bs} (hg:goodP P=true) (hl:P.length<1000) {fr0:Tr AV} {t:Tr AB} (g5:fr0.get t5=some (slV bsC ⟨1,P⟩)) (r:Nat) (s:St) (h:LoI P fr0 t r s) :
  Stp (LoI P fr0 t) (fun o=>∃ s,o=.exit 0 s∧LoI P fr0 t 0 s) r (execA (KH T0 T1 E w) (callN (KH T0 T1 E w) 49) c4_l1 s):=by
 obtain ⟨fr,m,i,rfl,hk,h1,kf,g6,g7⟩:=h
 have f5:=(kf t5 (by simp [loR])).trans g5
 cases r with
 | zero =>
  have hkn:(i<P.length)=False:=eq_false (by omega)
  simp +decide only [c4_l1,execA,opsA,wantedA,evalAll,evalA,oneA,st_mov,st_bin,st_len,binAV,St.put,Tr.get_put,if_true,if_false,cond_true,nbeq,decide_true,decide_false,eqK,kindNo,f5,g7,len_slV,ltI_dec,hkn,stp_e]
  refine ⟨_,rfl,_,m,i,rfl,hk,h1,?_,?_,?_⟩
  ·simp +decide only [KeepF_put]
   exact kf
  all_goals simp +decide only [Tr.get_put,g6,g7,if_false]
 | succ r =>
  have hil:i<P.length:=by omega
  have hkn:(i<P.length)=True:=eq_true hil
  obtain ⟨p,gd⟩:=good_at hg hil h1
  have ia:=at_slV (f:=bsC) (sz:=1) (s:=⟨1,P⟩) len_bs (by decide) gd.at_
  have hw:=wr_add i 1 (by omega)
  have hsp:∀ h,callN (KH T0 T1 E w) 49 (.fn t11 [] []) [.str p] h=.ret (.tup [slV bsC ⟨1,elF p⟩,.bool true]) h:=fun h=>splitH (f:=48) gd.el h
  have hms:=mostL_succ h1 gd.at_
  have hfu:(KH T0 T1 E w).fuel=100000:=rfl
  simp only [bsC] at ia
  simp +decide only [c4_l1,execA,opsA,wantedA,evalAll,evalA,oneA,st_mov,st_load,st_bin,st_not,st_call,st_indexAddr,st_extract,st_len,ld_rn,binAV,St.put,Tr.get_put,List.nil_append,List.cons_append,if_true,if_false,cond_true,nbeq,decide_true,Bool.not_true,eqK,kindNo,f5,g6,g7,ia,hsp,st_max',max_nat,len_slV,ltI_dec,hkn,hfu,List.getElem?_cons_zero,List.getElem?_cons_succ]
  generalize hit:iterA (execA (KH T0 T1 E w) (callN (KH T0 T1 E w) 49) c4_l0) _ _=o
  obtain ⟨fr2,m2,ho,k2,k10⟩:=lw_loop gd hl hit (by simp +decide only [Tr.get_put,f5,if_false]) (by simp +decide only [Tr.get_put,g7,if_false]) (by simp +decide only [Tr.get_put,if_true,if_false]) (by simp +decide only [Tr.get_put,if_true,if_false]) (by simp +decide only [Tr.get_put,if_true,if_false])
  subst ho
  clear hit
  have k7:fr2.get t7=some (.int .i64 (.ofNat i)):=(k2 t7 (by simp [lwR])).trans (by simp +decide only [Tr.get_put,g7,if_false])
  have k6:fr2.get t6=some (.int .i64 (.ofNat (mostL P (i+1)))):=(k2 t6 (by simp [lwR])).trans (by simp +decide only [Tr.get_put,hms,if_true,if_false])
  have kf3:KeepF loR fr0 fr2:=fun q hq=>by
   simp only [loR,List.mem_cons,List.not_mem_nil,or_false] at hq
   rcases hq with rfl | rfl | rfl
   ·exact (k2 t3 (by simp [lwR])).trans (by simp +decide only [Tr.get_put,if_false]; exact kf t3 (by simp [loR]))
   ·exact (k2 t4 (by simp [lwR])).trans (by simp +decide only [Tr.get_put,if_false]; exact kf t4 (by simp [loR]))
   ·exact (k2 t5 (by simp [lwR])).trans (by simp +decide only [Tr.get_put,if_false]; exact kf t5 (by simp [loR]))
  simp +decide only [st_mov,st_bin,st_not,binAV,Tr.get_put,if_true,if_false,cond_true,nbeq,decide_true,Bool.not_true,eqK,kindNo,k10,k7,hw,stp_n]
  refine ⟨r,by omega,_,m2,i+1,rfl,by omega,by omega,?_,?_,?_⟩
  ·simp +decide only [KeepF_put]
   exact kf3
  ·simp +decide only [Tr.get_put,k6,if_false]
  ·simp +decide only [Tr.get_put,if_true,reduceIte]
theorem lo_loop {T0 T1:TypD} {E:CkE} {w:AV} {P:List Bs} (hg:goodP P=true) (hl:P.length<1000) (h1:1≤P.length) {fr:Tr AV} {m:Nat} {t:Tr AB} {o:Out}
  (hit:iterA (execA (KH T0 T1 E w) (callN (KH T0 T1 E w) 49) c4_l1) 100000 ⟨fr,[],⟨up .e m,t,.lf⟩,.no,none,t4⟩=o) (g5:fr.get t5=some (slV bsC ⟨1,P⟩)) (g6:fr.get t6=some i0) (g7:fr.get t7=some i1) :
  ∃ fr' m',o=.exit 0 ⟨fr',[],⟨up .e m',t,.lf⟩,.no,none,t4⟩∧KeepF loR fr fr'∧fr'.get t6=some (.int .i64 (.ofNat (mostL P P.length))):=by
 have ho:∃ s,o=.exit 0 s∧LoI P fr t 0 s:=by
  rw [← hit]
  exact iter_rule (LoI P fr t) (fun o=>∃ s,o=.exit 0 s∧LoI P fr t 0 s) (fun r s h=>lo_round hg hl g5 r s h) 100000 (P.length - 1) _ ⟨fr,m,1,rfl,by omega,Nat.le_refl _,fun _ _=>rfl,by
   rw [g6]
   have:mostL P 1=0:=by
    unfold mostL
    cases P with
    | nil=>rfl
    | cons a l=>rfl
   rw [this],g7⟩ (by omega)
 obtain ⟨s,rfl,fr',m',i,rfl,hk,_,kf,h6,_⟩:=ho
 have:i=P.length:=by omega
 subst this
 exact ⟨fr',m',rfl,kf,h6⟩
section
variable {T0 T1:TypD} {E:CkE} {w:AV}
theorem kh_g (i:Pth) (h:memP i [t13,t11,t12]=false) (xs:List AV) (hh:H):(KH T0 T1 E w).sums i xs hh=(KG T0 T1 E w).sums i xs hh:=over_rest (X:=KG T0 T1 E w) h rfl xs hh
theorem kh_paths (hh:H):(KH T0 T1 E w).sums t10 [.agg E.d4] hh=some w:=by
 rw [kh_g t10 rfl]
 show paS E w (KE T0 T1).sums t10 [.agg E.d4] hh=some w
 have hb:AV.beq (.agg E.d4) (.agg E.d4)=true:=beq_rfl _
 simp only [paS,hb,cond_true]
 rfl
end
theorem most_shapes:shapes.all (fun s=>decide (mostL (pathsL s.2.1 s.2.2) (pathsL s.2.1 s.2.2).length+1=s.1))=true:=by decide
theorem min_i (a b:Nat):foldA min2A (.int .i64 (.ofNat a)) [.int .i64 (.ofNat b)]=some (.int .i64 (bif ltI (.ofNat b) (.ofNat a) then .ofNat b else .ofNat a)):=rfl
theorem min_nat (a b:Nat):(bif ltI (.ofNat b) (.ofNat a) then Int.ofNat b else .ofNat a)=.ofNat (min a b):=by
 rw [ltI_dec]
 by_cases h:b<a
 ·simp only [h,decide_true,cond_true]
  rw [Nat.min_eq_right (by omega)]
 ·simp only [h,decide_false,cond_false]
  rw [Nat.min_eq_left (by omega)]
theorem law4 {T0 T1:TypD} {E:CkE} {cnt:Nat} (K:DesK T0 T1 E cnt) {Ls Ls':Sl (Sl Int)} (hsl:sliceA (.slc 1) false true false [slV liC Ls,.int .i64 (.ofNat (min Ls.l.length 8))]=some (slV liC Ls')) (hmade:∀ h,K4.sums t7 [slV liC Ls'] h=some (.agg E.d4)) :
  Ret (callN (KH T0 T1 E (pathsV cnt E)) 50 (.fn t4 [] []) [slV liC Ls] h0) (fun v _=>v=.bool true):=by
 have hs:∀ xs,(KH T0 T1 E (pathsV cnt E)).sums t4 xs h0=none:=fun _=>rfl
 have hF:(KH T0 T1 E (pathsV cnt E)).funcs.get t4=some c4:=rfl
 have hfu:(KH T0 T1 E (pathsV cnt E)).fuel=100000:=rfl
 have hm:=shape_mem K
 have hg:=List.all_eq_true.1 good_shapes _ hm
 have hmo:=List.all_eq_true.1 most_shapes _ hm
 simp only [decide_eq_true_eq] at hmo
 have hsan:∀ h,callN (KH T0 T1 E (pathsV cnt E)) 49 (.fn t6 [] []) [] h=.ret (.bool true) h:=fun h=>call_sum (n:=48) rfl
 have hma:∀ h,callN (KH T0 T1 E (pathsV cnt E)) 49 (.fn t7 [] []) [slV liC Ls'] h=.ret (.agg E.d4) h:=fun h=>call_sum (n:=48) (by
  rw [List.nil_append,List.append_nil,kh_g t7 rfl,kg_4 t7 rfl rfl rfl rfl rfl]
  exact hmade h)
 have hpa:∀ h,callN (KH T0 T1 E (pathsV cnt E)) 49 (.fn t10 [] []) [.agg E.d4] h=.ret (pathsV cnt E) h:=fun h=>call_sum (n:=48) (by
  rw [List.nil_append,List.append_nil]
  exact kh_paths h)
 have hde:∀ h,callN (KH T0 T1 E (pathsV cnt E)) 49 (.fn t13 [] []) [.agg E.d4] h=.ret (.int .i64 (.ofNat cnt)) h:=fun h=>call_sum (n:=48) (by
  rw [List.nil_append,List.append_nil]
  exact depth_sum (ck_made K) (depth_made K) h)
 have hcnt:(shapeOf cnt E.Ss.l).1=cnt:=rfl
 rw [hcnt] at hmo
 have hpv:pathsV cnt E=slV bsC ⟨1,pathsL (shapeOf cnt E.Ss.l).2.1 (shapeOf cnt E.Ss.l).2.2⟩:=rfl
 generalize pathsV cnt E=w at hs hF hfu hsan hma hpa hde hpv ⊢
 generalize pathsL (shapeOf cnt E.Ss.l).2.1 (shapeOf cnt E.Ss.l).2.2=P at hg hmo hpv
 have hpa:∀ h,callN (KH T0 T1 E w) 49 (.fn t10 [] []) [.agg E.d4] h=.ret (slV bsC ⟨1,P⟩) h:=fun h=>by rw [hpa h,hpv]
 have hg':=hg
 simp only [goodP,Bool.and_eq_true,decide_eq_true_eq] at hg'
 obtain ⟨⟨hl,hp0⟩,_⟩:=hg'
 have h1:1≤P.length:=by
  rcases Nat.lt_or_ge 0 P.length with h | h
  ·exact h
  ·rw [List.getElem?_eq_none h] at hp0; cases hp0
 have ia:=at_slV (f:=bsC) (sz:=1) (s:=⟨1,P⟩) (k:=0) len_bs (by decide) hp0
 have hz:eqI (.ofNat P.length) (.ofNat 0)=false:=by rw [eqI_dec]; exact decide_eq_false (fun e=>by have:=Int.ofNat.inj e; omega)
 have hes:eqS [] []=true:=rfl
 have hw:=wr_add (mostL P P.length) 1 (by have:=K.h3; omega)
 have hq:eqI (.ofNat cnt) (.ofNat (mostL P P.length+1))=true:=by rw [eqI_dec]; exact decide_eq_true (by rw [hmo])
 refine begin1 (hs _) hF fun fr t ga => ?_
 rw [c4]
 simp only [CkE.d4] at hma hpa hde
 simp only [bsC] at ia
 simp +decide only [execA,opsA,wantedA,evalAll,evalA,oneA,st_mov,st_alloc,st_load,st_store,st_bin,st_call,st_indexAddr,st_pick,st_slice,st_len,st_min,ld_ptr,ld_rn,H.cellsAt,H.newB,partA,tk_0,tk_c,storeA,setAt,ones,cl_agg,on_str,on_slV,binAV,eqAV,St.put,Tr.get_put,List.nil_append,List.cons_append,if_true,if_false,cond_true,cond_false,Nat.zero_add,up_succ,List.length,nbeq,decide_true,Nat.reduceAdd,Bool.not_true,eqK,kindNo,Option.map_some,Option.map_none,beq_self_eq_true,beq_t,Bool.and_self,ga,hsan,hma,hpa,len_slV,min_i,min_nat,hsl,hz,ia,hes,hfu]
 generalize hit:iterA (execA (KH T0 T1 E w) (callN (KH T0 T1 E w) 49) c4_l1) _ _=o
 obtain ⟨fr2,m2,ho,kf,k6⟩:=lo_loop hg hl h1 hit (by simp +decide only [Tr.get_put,if_true,if_false]) (by simp +decide only [Tr.get_put,if_true,if_false]) (by simp +decide only [Tr.get_put,if_true,if_false])
 subst ho
 clear hit
 have k3:fr2.get t3=some (.bool true):=(kf t3 (by simp [loR])).trans (by simp +decide only [Tr.get_put,if_true,if_false])
 have k4:fr2.get t4=some (.ptr (up .e 0) 0):=(kf t4 (by simp [loR])).trans (by simp +decide only [Tr.get_put,if_true,if_false])
 simp +decide only [st_mov,st_load,st_bin,st_call,st_pick,ld_ptr,H.cellsAt,partA,tk_0,tk_c,binAV,eqAV,Tr.get_put,if_true,if_false,cond_true,nbeq,decide_true,eqK,kindNo,ret_iff,leaveA,dfrsA,resultA,resultsA,Option.map_some,k3,k4,k6,hde,hw,hq]
end Go.Abs.Sym
end
