/- A part of the proof that LibFinds answers true at every input: AbsSym23, AbsLp3, AbsSym24. -/
import Derived.Test.YthfmfbbfaiohcaaGreatDoorFinds30
section
namespace Go.Abs.Sym
open Go.Abs.T
open Go.Proofs
def CutJ (R : TypD) (nm : List Nat) (pv : AV) (m : Nat) (s : St) : Prop :=
  ∃ fr j t nb gb rs gv gs,s = ⟨fr,[],⟨up .e j,t,.lf⟩,.no,none,t6⟩ ∧ 3 ≤ j ∧ gs.length + m = min R.gates.l.length 4 ∧ rs.length ≤ 5 ∧
    fr.get t1 = some (.ptr (up .e 0) 0) ∧ fr.get t2 = some (.ptr (up .e 1) 0) ∧ fr.get t3 = some (.ptr (up .e 2) 0) ∧ fr.get t6 = some (.int .i64 (.ofNat gs.length)) ∧
    t.get (up .e 0) = some (.cells [.str R.nm,slV padC R.pads,slV gateC R.gates] false) ∧ t.get (up .e 1) = some (.cells [e0,.nils,.nils] false) ∧ t.get (up .e 2) = some (.cells [.str nm,pv,gv] false) ∧
    Grow 7 t 3 j nb pv rs ∧ (∀ r ∈ rs,PadR (fun _ _ => False) r) ∧ Grow 2 t 3 j gb gv gs ∧ (∀ r ∈ gs,GateR (fun _ _ => False) r) ∧ (3 ≤ nb → 3 ≤ gb → nb ≠ gb)
set_option maxHeartbeats 1000000 in
theorem cut_round2 (R : TypD) (nm : List Nat) (pv : AV) (m : Nat) (s : St) (h : CutJ R nm pv m s) :
    Stp (CutJ R nm pv) (fun o => ∃ s,o = .exit 2 s ∧ CutJ R nm pv 0 s) m (execA K2 (callN K2 49) c6_l1 s) := by
  obtain ⟨fr,j,t,nb,gb,rs,gv,gs,rfl,hj,hk,hrs,g1,g2,g3,g6,a0,a1,a2,hp,hpr,hg,hr,hne⟩ := h
  cases m with
  | zero =>
    by_cases h5 : gs.length < R.gates.l.length
    · have hk5 : (gs.length < 4) = False := eq_false (by omega)
      have hkn := eq_true h5
      simp +decide (disch := omega) only [c6_l1,execA,opsA,wantedA,evalAll,evalA,oneA,st_mov,st_load,st_bin,st_fieldAddr,st_pick,st_len,ld_ptr,H.cellsAt,partA,tk_s,tk_0,tk_c,binAV,St.put,Tr.get_put,if_true,if_false,cond_true,Nat.zero_add,nbeq,decide_true,decide_false,eqK,kindNo,Option.map_some,beq_self_eq_true,g1,g6,a0,len_slV,ltI_dec,hkn,hk5,stp_e]
      refine ⟨_,rfl,_,j,t,nb,gb,rs,gv,gs,rfl,hj,hk,hrs,?_,?_,?_,?_,a0,a1,a2,hp,hpr,hg,hr,hne⟩
      all_goals simp +decide only [Tr.get_put,g1,g2,g3,g6,if_false]
    · have hkn := eq_false h5
      simp +decide (disch := omega) only [c6_l1,execA,opsA,wantedA,evalAll,evalA,oneA,st_mov,st_load,st_bin,st_fieldAddr,st_pick,st_len,ld_ptr,H.cellsAt,partA,tk_s,tk_0,tk_c,binAV,St.put,Tr.get_put,if_true,if_false,cond_true,cond_false,Nat.zero_add,nbeq,decide_true,decide_false,eqK,kindNo,Option.map_some,beq_t,g1,g6,a0,len_slV,ltI_dec,hkn,stp_e]
      refine ⟨_,rfl,_,j,t,nb,gb,rs,gv,gs,rfl,hj,hk,hrs,?_,?_,?_,?_,a0,a1,a2,hp,hpr,hg,hr,hne⟩
      all_goals simp +decide only [Tr.get_put,g1,g2,g3,g6,if_false]
  | succ m =>
    have hkn0 : gs.length < R.gates.l.length := by omega
    have hk50 : gs.length < 4 := by omega
    have hkn := eq_true hkn0
    have hk5 := eq_true hk50
    have hw := wr_add gs.length 1 (by omega)
    obtain ⟨x,hka⟩ : ∃ x,R.gates.l[gs.length]? = some x := ⟨_,List.getElem?_eq_getElem hkn0⟩
    have ia := at_slV (f := gateC) (sz := 2) len_gate (by decide) hka
    obtain ⟨s',hs2,hs3⟩ := slice_slV (f := lgC) len_lg (s := x.legs) (m := min x.legs.l.length 4) (by omega)
    have hrow : GateR (fun _ _ => False) [.int .i64 x.kd,slV lgC s'] := ⟨_,_,rfl,.inl ⟨s',by rw [hs2,List.length_take]; omega,rfl⟩⟩
    have z0 := z_ne (i := 0) (j := j) (by omega)
    have z1 := z_ne (i := 1) (j := j) (by omega)
    have z2 := z_ne (i := 2) (j := j) (by omega)
    have y0 := z_ne' (i := 0) (j := j) (by omega)
    have y1 := z_ne' (i := 1) (j := j) (by omega)
    have y2 := z_ne' (i := 2) (j := j) (by omega)
    simp +decide only [c6_l1,execA,opsA,wantedA,evalAll,evalA,oneA,dregA,dopsA,dstep,isMaker,withP_nil,takesP_nil,leavesP_nil,rd_mov,rd_build,rd_load,rd_slice,rd_fieldp,rd_fieldr,rd_indexAddr,rd_len,rd_min,st_mov,st_load,st_bin,st_fieldAddr,st_indexAddr,st_build,st_pick,st_slice,st_fieldr,st_len,st_min,st_buildSl,st_append,mk_buildSl,ld_ptr,ld_rn,H.cellsAt,H.newB,partA,tk_s,tk_0,tk_c,setAt,fillA,fillS,cl_agg,cl_int,cl_slV,binAV,St.put,Tr.get_put,List.nil_append,List.cons_append,if_true,if_false,cond_true,cond_false,Nat.zero_add,Nat.zero_mul,skip_up0,up_up,up_succ,List.drop,List.length,seesHeap,quiet,recheck,nbeq,nble,decide_true,Nat.reduceAdd,Nat.reduceLeDiff,Bool.true_and,Bool.and_true,Bool.and_false,Bool.false_and,Bool.or_false,Bool.or_true,List.all,eqK,kindNo,Option.map_some,beq_self_eq_true,Bool.and_self,Nat.add_assoc,cont_c,cont_n,tkP_c,lvP_c,withP_c,gateC,g1,g3,g6,a0,a2,len_slV,ltI_dec,hkn,hk5,ia,min_nat,hs3]
    generalize hA : appendA _ 2 32 _ _ = A
    generalize hTT : Tr.put _ (up .e (j + 24)) _ = TT at hA
    have k0 : TT.get (up .e (j + 24)) = some (.cells [.int .i64 x.kd,slV lgC s'] false) := by
      rw [← hTT,Tr.get_put,if_pos rfl]
    have kold : ∀ i,i < j → TT.get (up .e i) = t.get (up .e i) := fun i hi => by
      rw [← hTT]
      simp +decide (disch := omega) only [Tr.get_put,up_ne,if_false]
    have hl2 : [AV.int .i64 x.kd,slV lgC s'].length = 2 := rfl
    have hon : ones [AV.int .i64 x.kd,slV lgC s'] = true := by simp only [ones,on_int,on_slV,Bool.and_self]
    generalize [AV.int .i64 x.kd,slV lgC s'] = row at k0 hl2 hon hrow
    have k1 : Grow 2 TT 3 (j + 28) gb gv gs := hg.keep (hi' := j + 28) (by omega) (fun _ h => kold gb h)
    have k2 : gs.length < 1000000 := by omega
    have k3 : 3 ≤ j + 28 := by omega
    have k4 : ∀ r ∈ gs,r.length = 2 := fun r h => (hr r h).len
    have ap := Grow.append k1 hA k0 hl2 hon k4 (by decide) k2 k3
    obtain ⟨t2,hA2,b1,b2,b3⟩ := ap
    subst hA2
    have q0 := (b2 0 (by omega) (fun _ _ => by omega)).trans ((kold 0 (by omega)).trans a0)
    have q1 := (b2 1 (by omega) (fun _ _ => by omega)).trans ((kold 1 (by omega)).trans a1)
    have q2 := (b2 2 (by omega) (fun _ _ => by omega)).trans ((kold 2 (by omega)).trans a2)
    have hgv := hg.one
    have hpv := hp.one
    simp +decide only [withP_nil,takesP_nil,leavesP_nil,rd_fieldp,st_mov,st_store,st_bin,storeA,setAt,ones,on_slc,cl_slc,binAV,Tr.get_put,if_true,if_false,cond_true,Nat.zero_add,List.length,nbeq,decide_true,Nat.reduceAdd,List.all,eqK,kindNo,Option.map_some,Bool.and_self,Nat.add_assoc,g3,g6,q2,hw,stp_n]
    have hnb := hp.lt
    have pn : ∀ X : AB,Grow 7 (t2.put (up .e 2) X) 3 (j + 29) nb pv rs := fun X => hp.keep (by omega) (fun h1 h2 => by
      rw [Tr.get_put,if_neg (fun e => by rw [up_inj] at e; omega)]
      exact (b2 nb (by omega) (fun h3 _ => hne h1 h3)).trans (kold nb h2))
    have gn : ∀ X : AB,Grow 2 (t2.put (up .e 2) X) 3 (j + 29) (j + 28) (.slc (up .e (j + 28)) 0 (gs.length + 1) 2 none) (gs ++ [row]) := fun X => b3.keep (Nat.le_refl _) (fun _ _ => by
      rw [Tr.get_put,if_neg (fun e => by rw [up_inj] at e; omega)])
    have hll : (gs ++ [row]).length = gs.length + 1 := by rw [List.length_append]; rfl
    refine ⟨m,by omega,_,j + 29,_,nb,j + 28,rs,_,gs ++ [row],rfl,by omega,by omega,hrs,?_,?_,?_,?_,?_,?_,by rw [Tr.get_put,if_pos rfl],pn _,hpr,gn _,fun r h => ?_,by omega⟩
    any_goals simp +decide (disch := omega) only [Tr.get_put,g1,g2,g3,q0,q1,hll,if_true,if_false]
    rcases List.mem_append.1 h with h | h
    · exact hr r h
    · rw [List.mem_singleton.1 h]
      exact hrow
theorem cut6 (R : TypD) : Ret (callN K2 50 (.fn t6 [] []) [.agg (tyC R)] h0) (fun v h1 => ∃ T : TypD,Small T ∧ deep 8 h1 v = .agg (tyC T)) := by
  have hs : ∀ xs,K2.sums t6 xs h0 = none := fun _ => rfl
  have hF : K2.funcs.get t6 = some c6 := rfl
  refine begin1 (hs _) hF fun fr t ga => ?_
  rw [c6_eq]
  simp only [tyC] at ga
  have hs1 := slice_str (s := R.nm) (m := min R.nm.length 20) (by omega)
  simp +decide (disch := omega) only [execA,opsA,wantedA,evalAll,evalA,oneA,st_mov,st_alloc,st_box,st_load,st_store,st_fieldAddr,st_build,st_slice,st_len,st_min,ld_ptr,H.cellsAt,H.newB,partA,tk_0,tk_c,storeA,setAt,fillA,ones,cl_agg,on_str,cl_str,on_nils,ln_str,St.put,Tr.get_put,if_true,if_false,cond_true,Nat.zero_add,Nat.add_zero,up_succ,Bool.and_self,List.length,nbeq,nble,decide_true,Nat.reduceAdd,Option.map_some,ga,kf2,min_nat,hs1]
  generalize hit : iterA (execA K2 (callN K2 49) c6_l0) 100000 _ = o
  have ho : ∃ s,o = .exit 0 s ∧ CutI R (R.nm.take (min R.nm.length 20)) 0 s := by
    rw [← hit]
    refine iter_rule (CutI R _) (fun o => ∃ s,o = .exit 0 s ∧ CutI R _ 0 s) (fun m s h => cut_round R _ m s h) 100000 (bnd R.pads.l.length) _ ⟨_,3,_,0,.nils,[],rfl,by omega,by simp,?_,?_,?_,?_,?_,?_,?_,.inl ⟨rfl,rfl,rfl⟩,fun _ h => absurd h List.not_mem_nil⟩ (by rw [bnd_def]; omega)
    all_goals simp +decide (disch := omega) only [Tr.get_put,if_true,if_false,List.length_nil]
  obtain ⟨s,rfl,hs⟩ := ho
  obtain ⟨fr,j,t,nb,pv,rs,rfl,hj,hk,g1,g2,g3,g4,a0,a1,a2,hg,hr⟩ := hs
  have hrs : rs.length ≤ 5 := by rw [bnd_def] at hk; omega
  simp +decide (disch := omega) only [cond_true,decide_true]
  generalize hit2 : iterA (execA K2 (callN K2 49) c6_l1) 100000 _ = o
  have ho : ∃ s,o = .exit 2 s ∧ CutJ R (R.nm.take (min R.nm.length 20)) pv 0 s := by
    rw [← hit2]
    refine iter_rule (CutJ R _ pv) (fun o => ∃ s,o = .exit 2 s ∧ CutJ R _ pv 0 s) (fun m s h => cut_round2 R _ pv m s h) 100000 (min R.gates.l.length 4) _ ⟨_,j,t,nb,0,rs,.nils,[],rfl,hj,by simp,hrs,?_,?_,?_,?_,a0,a1,a2,hg,hr,.inl ⟨rfl,rfl,rfl⟩,fun _ h => absurd h List.not_mem_nil,by omega⟩ (by omega)
    all_goals simp +decide (disch := omega) only [Tr.get_put,g1,g2,g3,if_true,if_false,List.length_nil]
  obtain ⟨s,rfl,hs⟩ := ho
  obtain ⟨fr,j,t,nb,gb,rs,gv,gs,rfl,hj,hk,hrs,g1,g2,g3,g6,a0,a1,a2,hp,hpr,hg,hr,hne⟩ := hs
  have hpv := hp.one
  have hgv := hg.one
  simp +decide (disch := omega) only [st_load,st_store,ld_ptr,H.cellsAt,partA,tk_0,tk_c,storeA,setAt,ones,cl_agg,on_str,Tr.get_put,if_true,if_false,cond_true,Nat.zero_add,Bool.and_self,List.length,nbeq,decide_true,Nat.reduceAdd,ret_iff,leaveA,dfrsA,resultA,resultsA,Option.map_some,g2,g3,a1,a2,hpv,hgv]
  obtain ⟨ps,h1,h2,h3⟩ := pads_deep (nx := up .e j) (t := t.put (up .e 1) (.cells [.str (R.nm.take (min R.nm.length 20)),pv,gv] false)) (hp.keep (Nat.le_refl _) (fun k1 k2 => by
    rw [Tr.get_put,if_neg (fun e => by rw [up_inj] at e; omega)])) hpr (fun _ _ h => h.elim)
  have hgk := hg.keep (t' := t.put (up .e 1) (.cells [.str (R.nm.take (min R.nm.length 20)),pv,gv] false)) (Nat.le_refl _) (fun k1 k2 => by
    rw [Tr.get_put,if_neg (fun e => by rw [up_inj] at e; omega)])
  have hGV : GV (t.put (up .e 1) (.cells [.str (R.nm.take (min R.nm.length 20)),pv,gv] false)) gv := by
    rcases hgk with ⟨_,h,_⟩ | ⟨k1,k2,k3,k4,k5⟩
    · exact .inl h
    · exact .inr ⟨gb,gs.length,none,gs,true,fun _ _ => False,k2,rfl,by omega,k3,hr,fun _ _ h => h.elim,by omega,fun _ _ h => h.elim⟩
  obtain ⟨qs,q1,q2,q3⟩ := gates_deep (nx := up .e j) hGV
  refine ⟨⟨R.nm.take (min R.nm.length 20),ps,qs⟩,⟨by show ps.l.length < 90000; omega,q1,h2,q2⟩,?_⟩
  rw [deep_agg]
  simp only [List.map_cons,List.map_nil,h3,q3]
  rfl
theorem cut6_sum (R : TypD) : ∃ T : TypD,Small T ∧ ∀ h,K3.sums t6 [.agg (tyC R)] h = some (.agg (tyC T)) := by
  obtain ⟨v,h1,hc,T,k1,hd⟩ := cut6 R
  refine ⟨T,k1,fun h => ?_⟩
  have := over_fz (fz := [t34,t37,t22,t23,t7,t6,t8]) (dp := []) rfl hc (by simp only [frzs,frz,frz_ty,Bool.and_self]) (by rw [hd]; simp only [frz,frz_ty]) h
  rw [hd] at this
  exact this
end Go.Abs.Sym
end
section
namespace Go.Abs.T
open AV
set_option maxRecDepth 100000
def c7_k0 : ACode := (.reg [⟨s65,.buildSl 8 1 [e0,e0,e0,e0,e0,e0,e0,e0] [0,1,2,3,4,5,6,7],[.const e0,.const (str [49,97]),.const (str [97,32,98]),.const (str [97,98,99,100,101,102,103,104,105,106,107,108,109,110,111,112]),.const (str [97,98,99,100,101,102,103,104,105,106,107,108,109,110,111,112,113]),.const (str [43,97]),.const (str [95]),.const (str [97,47,98])],none⟩,⟨s66,.mov,[v7],none⟩,⟨s67,.bin .add .one,[v66,.const i1],none⟩,⟨s68,.indexAddr (.slc 1),[v65,v67],none⟩,⟨s69,.load none,[v68],none⟩,⟨s70,.fieldAddr 0,[v5],none⟩,⟨none,.store 1,[v70,v69],none⟩])
def c7_k1 : ACode := (.dreg [⟨⟨s73,.fieldAddr 1,[v5],none⟩,false,0,10,false,[],false⟩,⟨⟨s74,.load none,[v73],none⟩,false,0,10,false,[],false⟩,⟨⟨s75,.mov,[v8],none⟩,false,0,10,false,[],false⟩,⟨⟨s76,.buildSl 8 1 [e0,e0,e0,e0,e0,e0,e0,e0] [0,1,2,3,4,5,6,7],[.const e0,.const (str [80,49]),.const (str [80,32,49]),.const (str [80,55]),.const (str [68,91,51,93]),.const (str [68,91,51,46,46,51,93]),.const (str [68,91,49,46,46,48,93]),.const (str [68,91,48,51,93])],none⟩,false,0,10,false,[],false⟩,⟨⟨s77,.mov,[v7],none⟩,false,0,10,false,[],false⟩,⟨⟨s78,.bin .add .one,[v77,.const i1],none⟩,false,0,10,false,[],false⟩,⟨⟨s79,.indexAddr (.slc 1),[v76,v78],none⟩,false,0,10,false,[3],false⟩,⟨⟨s80,.load none,[v79],none⟩,false,0,10,false,[3],false⟩,⟨⟨s81,.indexAddr (.slc 7),[v74,v75],none⟩,false,0,10,false,[3],false⟩,⟨⟨s82,.fieldAddr 0,[v81],none⟩,false,0,10,false,[3],false⟩,⟨⟨none,.store 1,[v82,v80],none⟩,true,0,11,true,[3],true⟩])
def c7_k2 : ACode := (.dreg [⟨⟨s85,.fieldAddr 1,[v5],none⟩,false,0,16,false,[],false⟩,⟨⟨s86,.load none,[v85],none⟩,false,0,16,false,[],false⟩,⟨⟨s87,.mov,[v8],none⟩,false,0,16,false,[],false⟩,⟨⟨s88,.fieldAddr 1,[v5],none⟩,false,0,16,false,[],false⟩,⟨⟨s89,.load none,[v88],none⟩,false,0,16,false,[],false⟩,⟨⟨s90,.mov,[v8],none⟩,false,0,16,false,[],false⟩,⟨⟨s91,.indexAddr (.slc 7),[v89,v90],none⟩,false,0,16,false,[],false⟩,⟨⟨s92,.fieldAddr 4,[v91],none⟩,false,0,16,false,[],false⟩,⟨⟨s93,.fieldAddr 0,[v92],none⟩,false,0,16,false,[],false⟩,⟨⟨s94,.load none,[v93],none⟩,false,0,16,false,[],false⟩,⟨⟨s95,.mov,[v7],none⟩,false,0,16,false,[],false⟩,⟨⟨s96,.bin .mul .one,[.const i2,v95],none⟩,false,0,16,false,[],false⟩,⟨⟨s97,.bin .add .one,[v94,v96],none⟩,false,0,16,false,[],false⟩,⟨⟨s98,.indexAddr (.slc 7),[v86,v87],none⟩,false,0,16,false,[],false⟩,⟨⟨s99,.fieldAddr 4,[v98],none⟩,false,0,16,false,[],false⟩,⟨⟨s100,.fieldAddr 0,[v99],none⟩,false,0,16,false,[],false⟩,⟨⟨none,.store 1,[v100,v97],none⟩,true,0,17,true,[],true⟩])
def c7_k3 : ACode := (.reg [⟨s103,.fieldAddr 1,[v5],none⟩,⟨s104,.load none,[v103],none⟩,⟨s105,.mov,[v8],none⟩,⟨s106,.mov,[v7],none⟩,⟨s107,.bin .mul .one,[.const i2,v106],none⟩,⟨s108,.bin .add .one,[v107,.const i4],none⟩,⟨s109,.indexAddr (.slc 7),[v104,v105],none⟩,⟨s110,.fieldAddr 6,[v109],none⟩,⟨none,.store 1,[v110,v108],none⟩])
def c7_k4 : ACode := (.reg [⟨s113,.fieldAddr 1,[v5],none⟩,⟨s114,.load none,[v113],none⟩,⟨s115,.mov,[v8],none⟩,⟨s116,.mov,[v7],none⟩,⟨s117,.indexAddr (.slc 7),[v114,v115],none⟩,⟨s118,.fieldAddr 6,[v117],none⟩,⟨none,.store 1,[v118,v116],none⟩])
def c7_k5 : ACode := (.reg [⟨s121,.fieldAddr 1,[v5],none⟩,⟨s122,.load none,[v121],none⟩,⟨s123,.mov,[v8],none⟩,⟨s124,.mov,[v7],none⟩,⟨s125,.un .neg,[v124],none⟩,⟨s126,.indexAddr (.slc 7),[v122,v123],none⟩,⟨s127,.fieldAddr 1,[v126],none⟩,⟨s128,.fieldAddr 2,[v127],none⟩,⟨none,.store 1,[v128,v125],none⟩])
def c7_k6a : ACode := (.reg [⟨s131,.fieldAddr 1,[v5],none⟩,⟨s132,.load none,[v131],none⟩,⟨s133,.mov,[v8],none⟩,⟨s134,.mov,[v7],none⟩,⟨s135,.bin .add .one,[.const (int .i64 (.ofNat 1048576)),v134],none⟩,⟨s136,.build [i0,i0] [(0,1),(1,1)],[v135,.const i0],none⟩,⟨s137,.indexAddr (.slc 7),[v132,v133],none⟩,⟨s138,.fieldAddr 4,[v137],none⟩,⟨none,.store 2,[v138,v136],none⟩])
def c7_k6b : ACode := (.dreg [⟨⟨s139,.fieldAddr 1,[v5],none⟩,false,0,9,true,[],false⟩,⟨⟨s140,.load none,[v139],none⟩,false,0,9,true,[],false⟩,⟨⟨s141,.mov,[v8],none⟩,false,0,9,true,[],false⟩,⟨⟨s142,.build [i0,i0] [(0,1)],[.const (int .i64 (.ofNat 1048573))],none⟩,false,0,6,false,[],false⟩,⟨⟨s143,.mov,[v7],none⟩,false,0,6,false,[],false⟩,⟨⟨s144,.bin .add .one,[v143,.const i2],none⟩,false,0,6,false,[],false⟩,⟨⟨s145,.call,[.const (g t25),v142,v144],none⟩,true,0,9,true,[],false⟩,⟨⟨s146,.indexAddr (.slc 7),[v140,v141],none⟩,false,7,9,false,[],false⟩,⟨⟨s147,.fieldAddr 1,[v146],none⟩,false,7,9,false,[],false⟩,⟨⟨none,.store 3,[v147,v145],none⟩,true,7,10,true,[],true⟩])
def c7_k7 : ACode := (.reg [⟨s150,.fieldAddr 1,[v5],none⟩,⟨none,.store 1,[v150,.const nils],none⟩])
def c7_k8 : ACode := (.seq (.reg [⟨s9,.mov,[.const i0],none⟩]) (.block 3 (.loop c7_l1)))
def c7_k9 : ACode := (.dreg [⟨⟨s175,.fieldAddr 2,[v5],none⟩,false,0,13,false,[],false⟩,⟨⟨s176,.load none,[v175],none⟩,false,0,13,false,[],false⟩,⟨⟨s177,.mov,[v7],none⟩,false,0,13,false,[],false⟩,⟨⟨s178,.fieldAddr 1,[v5],none⟩,false,0,13,false,[],false⟩,⟨⟨s179,.load none,[v178],none⟩,false,0,13,false,[],false⟩,⟨⟨s180,.mov,[v8],none⟩,false,0,13,false,[],false⟩,⟨⟨s181,.indexAddr (.slc 7),[v179,v180],none⟩,false,0,13,false,[],false⟩,⟨⟨s182,.fieldAddr 0,[v181],none⟩,false,0,13,false,[],false⟩,⟨⟨s183,.load none,[v182],none⟩,false,0,13,false,[],false⟩,⟨⟨s184,.build [e0,i0] [(0,1)],[v183],none⟩,false,0,13,false,[],false⟩,⟨⟨s185,.buildSl 1 2 [e0,i0] [0],[v184],none⟩,false,0,13,false,[],false⟩,⟨⟨s186,.build [i0,nils] [(0,1),(1,1)],[v177,v185],none⟩,false,0,13,false,[10],false⟩,⟨⟨s187,.buildSl 1 2 [i0,nils] [0],[v186],none⟩,false,0,13,false,[10],false⟩,⟨⟨s188,.append 2 32 false,[v176,v187],none⟩,true,0,15,true,[10,12],false⟩,⟨⟨s189,.fieldAddr 2,[v5],none⟩,false,14,15,false,[10,12],false⟩,⟨⟨none,.store 1,[v189,v188],none⟩,true,14,16,true,[10,12],true⟩])
def c7_k10a : ACode := (.cond (v208) (.reg [⟨s209,.fieldAddr 2,[v5],none⟩,⟨s210,.load none,[v209],none⟩,⟨s211,.fieldAddr 2,[v5],none⟩,⟨s212,.load none,[v211],none⟩,⟨s213,.len .slc,[v212],none⟩,⟨s214,.bin .sub .one,[v213,.const i1],none⟩,⟨s215,.indexAddr (.slc 2),[v210,v214],none⟩,⟨s216,.fieldAddr 1,[v215],none⟩,⟨s217,.load none,[v216],none⟩,⟨s218,.mov,[v7],none⟩,⟨s219,.indexAddr (.slc 2),[v217,.const i0],none⟩,⟨s220,.fieldAddr 1,[v219],none⟩,⟨none,.store 1,[v220,v218],none⟩]) .skip)
def c7_k10 : ACode := (.seq (.reg [⟨s192,.fieldAddr 2,[v5],none⟩,⟨s193,.load none,[v192],none⟩,⟨s194,.len .slc,[v193],none⟩,⟨s195,.bin .gtr .one,[v194,.const i0],none⟩,⟨s196,.mov,[v195],none⟩,⟨s197,.fieldAddr 2,[v5],(some (t196,true))⟩,⟨s198,.load none,[v197],(some (t196,true))⟩,⟨s199,.fieldAddr 2,[v5],(some (t196,true))⟩,⟨s200,.load none,[v199],(some (t196,true))⟩,⟨s201,.len .slc,[v200],(some (t196,true))⟩,⟨s202,.bin .sub .one,[v201,.const i1],(some (t196,true))⟩,⟨s203,.indexAddr (.slc 2),[v198,v202],(some (t196,true))⟩,⟨s204,.fieldAddr 1,[v203],(some (t196,true))⟩,⟨s205,.load none,[v204],(some (t196,true))⟩,⟨s206,.len .slc,[v205],(some (t196,true))⟩,⟨s207,.bin .gtr .one,[v206,.const i0],(some (t196,true))⟩,⟨s208,.pick,[v196,v207,.const (bool false)],none⟩]) c7_k10a)
def c7_k11a : ACode := (.cond (v235) (.dreg [⟨⟨s236,.fieldAddr 2,[v5],none⟩,false,0,13,false,[],false⟩,⟨⟨s237,.load none,[v236],none⟩,false,0,13,false,[],false⟩,⟨⟨s238,.indexAddr (.slc 2),[v237,.const i0],none⟩,false,0,13,false,[],false⟩,⟨⟨s239,.fieldAddr 1,[v238],none⟩,false,0,13,false,[],false⟩,⟨⟨s240,.load none,[v239],none⟩,false,0,13,false,[],false⟩,⟨⟨s241,.fieldAddr 1,[v5],none⟩,false,0,13,false,[],false⟩,⟨⟨s242,.load none,[v241],none⟩,false,0,13,false,[],false⟩,⟨⟨s243,.mov,[v8],none⟩,false,0,13,false,[],false⟩,⟨⟨s244,.indexAddr (.slc 7),[v242,v243],none⟩,false,0,13,false,[],false⟩,⟨⟨s245,.fieldAddr 0,[v244],none⟩,false,0,13,false,[],false⟩,⟨⟨s246,.load none,[v245],none⟩,false,0,13,false,[],false⟩,⟨⟨s247,.indexAddr (.slc 2),[v240,.const i0],none⟩,false,0,13,false,[],false⟩,⟨⟨s248,.fieldAddr 0,[v247],none⟩,false,0,13,false,[],false⟩,⟨⟨none,.store 1,[v248,v246],none⟩,true,0,14,true,[],true⟩]) .skip)
def c7_k11 : ACode := (.seq (.reg [⟨s223,.fieldAddr 2,[v5],none⟩,⟨s224,.load none,[v223],none⟩,⟨s225,.len .slc,[v224],none⟩,⟨s226,.bin .gtr .one,[v225,.const i0],none⟩,⟨s227,.mov,[v226],none⟩,⟨s228,.fieldAddr 2,[v5],(some (t227,true))⟩,⟨s229,.load none,[v228],(some (t227,true))⟩,⟨s230,.indexAddr (.slc 2),[v229,.const i0],(some (t227,true))⟩,⟨s231,.fieldAddr 1,[v230],(some (t227,true))⟩,⟨s232,.load none,[v231],(some (t227,true))⟩,⟨s233,.len .slc,[v232],(some (t227,true))⟩,⟨s234,.bin .gtr .one,[v233,.const i0],(some (t227,true))⟩,⟨s235,.pick,[v227,v234,.const (bool false)],none⟩]) c7_k11a)
def c7_k12a : ACode := (.cond (v254) (.dreg [⟨⟨s255,.fieldAddr 2,[v5],none⟩,false,0,20,false,[],false⟩,⟨⟨s256,.load none,[v255],none⟩,false,0,20,false,[],false⟩,⟨⟨s257,.fieldAddr 2,[v5],none⟩,false,0,20,false,[],false⟩,⟨⟨s258,.load none,[v257],none⟩,false,0,20,false,[],false⟩,⟨⟨s259,.indexAddr (.slc 2),[v258,.const i0],none⟩,false,0,20,false,[],false⟩,⟨⟨s260,.fieldAddr 1,[v259],none⟩,false,0,20,false,[],false⟩,⟨⟨s261,.load none,[v260],none⟩,false,0,20,false,[],false⟩,⟨⟨s262,.fieldAddr 2,[v5],none⟩,false,0,20,false,[],false⟩,⟨⟨s263,.load none,[v262],none⟩,false,0,20,false,[],false⟩,⟨⟨s264,.indexAddr (.slc 2),[v263,.const i0],none⟩,false,0,20,false,[],false⟩,⟨⟨s265,.fieldAddr 1,[v264],none⟩,false,0,20,false,[],false⟩,⟨⟨s266,.load none,[v265],none⟩,false,0,20,false,[],false⟩,⟨⟨s267,.len .slc,[v266],none⟩,false,0,20,false,[],false⟩,⟨⟨s268,.mov,[v7],none⟩,false,0,20,false,[],false⟩,⟨⟨s269,.bin .add .one,[v268,.const i1],none⟩,false,0,20,false,[],false⟩,⟨⟨s270,.bin .rem .one,[v269,.const i2],none⟩,false,0,20,false,[],false⟩,⟨⟨s271,.min,[v267,v270],none⟩,false,0,20,false,[],false⟩,⟨⟨s272,.slice (.slc 2) false true false,[v261,v271],none⟩,false,0,20,false,[],false⟩,⟨⟨s273,.indexAddr (.slc 2),[v256,.const i0],none⟩,false,0,20,false,[],false⟩,⟨⟨s274,.fieldAddr 1,[v273],none⟩,false,0,20,false,[],false⟩,⟨⟨none,.store 1,[v274,v272],none⟩,true,0,21,true,[],true⟩]) .skip)
def c7_k12 : ACode := (.seq (.reg [⟨s251,.fieldAddr 2,[v5],none⟩,⟨s252,.load none,[v251],none⟩,⟨s253,.len .slc,[v252],none⟩,⟨s254,.bin .gtr .one,[v253,.const i0],none⟩]) c7_k12a)
def c7_k13 : ACode := (.seq (.reg [⟨s10,.mov,[.const i0],none⟩]) (.block 5 (.loop c7_l2)))
def c7_sw : ACode := (.block 2 (.seq (.reg [⟨s64,.bin .eql .one,[v62,.const i0],none⟩,⟨s63,.mov,[v64],none⟩]) (.cond (v63) c7_k0 (.seq (.reg [⟨s72,.bin .eql .one,[v62,.const i1],none⟩,⟨s71,.mov,[v72],none⟩]) (.cond (v71) c7_k1 (.seq (.reg [⟨s84,.bin .eql .one,[v62,.const i2],none⟩,⟨s83,.mov,[v84],none⟩]) (.cond (v83) c7_k2 (.seq (.reg [⟨s102,.bin .eql .one,[v62,.const i3],none⟩,⟨s101,.mov,[v102],none⟩]) (.cond (v101) c7_k3 (.seq (.reg [⟨s112,.bin .eql .one,[v62,.const i4],none⟩,⟨s111,.mov,[v112],none⟩]) (.cond (v111) c7_k4 (.seq (.reg [⟨s120,.bin .eql .one,[v62,.const i5],none⟩,⟨s119,.mov,[v120],none⟩]) (.cond (v119) c7_k5 (.seq (.reg [⟨s130,.bin .eql .one,[v62,.const i6],none⟩,⟨s129,.mov,[v130],none⟩]) (.cond (v129) (.seq c7_k6a c7_k6b) (.seq (.reg [⟨s149,.bin .eql .one,[v62,.const i7],none⟩,⟨s148,.mov,[v149],none⟩]) (.cond (v148) c7_k7 (.seq (.reg [⟨s152,.bin .eql .one,[v62,.const i8],none⟩,⟨s151,.mov,[v152],none⟩]) (.cond (v151) c7_k8 (.seq (.reg [⟨s174,.bin .eql .one,[v62,.const i9],none⟩,⟨s173,.mov,[v174],none⟩]) (.cond (v173) c7_k9 (.seq (.reg [⟨s191,.bin .eql .one,[v62,.const i10],none⟩,⟨s190,.mov,[v191],none⟩]) (.cond (v190) c7_k10 (.seq (.reg [⟨s222,.bin .eql .one,[v62,.const i11],none⟩,⟨s221,.mov,[v222],none⟩]) (.cond (v221) c7_k11 (.seq (.reg [⟨s250,.bin .eql .one,[v62,.const i12],none⟩,⟨s249,.mov,[v250],none⟩]) (.cond (v249) c7_k12 (.seq (.reg [⟨s276,.bin .eql .one,[v62,.const i13],none⟩,⟨s275,.mov,[v276],none⟩]) (.cond (v275) c7_k13 .skip)))))))))))))))))))))))))))))
def c7_h : ACode := (.dreg [⟨⟨s11,.fieldAddr 0,[v2],none⟩,false,0,8,true,[],false⟩,⟨⟨s12,.load none,[v11],none⟩,false,0,8,true,[],false⟩,⟨⟨s13,.buildSl 0 7 [] [],[],none⟩,false,0,5,false,[],false⟩,⟨⟨s14,.fieldAddr 1,[v2],none⟩,false,0,5,false,[],false⟩,⟨⟨s15,.load none,[v14],none⟩,false,0,5,false,[],false⟩,⟨⟨s16,.append 7 80 false,[v13,v15],none⟩,true,0,8,true,[2],false⟩,⟨⟨s17,.build [e0,nils,nils] [(0,1),(1,1)],[v12,v16],none⟩,false,6,8,false,[2],false⟩,⟨⟨s5,.alloc [e0,nils,nils],[],none⟩,false,0,8,true,[],false⟩,⟨⟨none,.store 3,[v5,v17],none⟩,true,6,9,true,[2,7],true⟩])
theorem c7_p : c7 = ⟨292,[.cell t4 (some 3)],(.seq (.reg [⟨s2,.box,[v0],none⟩,⟨s3,.box,[v1],none⟩,⟨s4,.alloc [e0,nils,nils],[],none⟩]) (.seq c7_h (.seq (.seq (.reg [⟨s6,.mov,[.const i0],none⟩]) (.block 0 (.loop c7_l0))) (.seq (.seq (.reg [⟨s45,.fieldAddr 1,[v5],none⟩,⟨s46,.load none,[v45],none⟩,⟨s47,.len .slc,[v46],none⟩,⟨s48,.bin .eql .one,[v47,.const i0],none⟩]) (.cond (v48) (.seq (.reg [⟨s49,.load (some 3),[v5],none⟩,⟨none,.store 3,[v4,v49],none⟩]) .ret) .skip)) (.seq (.reg [⟨s50,.indexAddr (.arr 3 1),[v3,.const i1],none⟩,⟨s51,.load none,[v50],none⟩,⟨s52,.call,[.const (g t24),v51,.const i8],none⟩,⟨s53,.bin .sub .one,[v52,.const i1],none⟩,⟨s7,.mov,[v53],none⟩]) (.seq (.reg [⟨s54,.indexAddr (.arr 3 1),[v3,.const i2],none⟩,⟨s55,.load none,[v54],none⟩,⟨s56,.fieldAddr 1,[v5],none⟩,⟨s57,.load none,[v56],none⟩,⟨s58,.len .slc,[v57],none⟩,⟨s59,.call,[.const (g t24),v55,v58],none⟩,⟨s8,.mov,[v59],none⟩]) (.seq (.seq (.reg [⟨s60,.indexAddr (.arr 3 1),[v3,.const i0],none⟩,⟨s61,.load none,[v60],none⟩,⟨s62,.call,[.const (g t24),v61,.const i14],none⟩]) c7_sw) (.seq (.reg [⟨s291,.load (some 3),[v5],none⟩,⟨none,.store 3,[v4,v291],none⟩]) .ret))))))))⟩ := rfl
end Go.Abs.T
end
section
namespace Go.Abs.Sym
open Go.Abs.T
open Go.Proofs
theorem first_slV {α : Type} {f : α → List AV} {sz : Nat} (hf : ∀ a,(f a).length = sz) (h : H) (s : Sl α) : firstA h sz s.l.length (slV f s) = some (s.l.flatMap f) := by
  obtain ⟨kd,l⟩ := s
  cases l with
  | nil =>
    match kd with
    | 0 => rfl
    | k + 1 =>
      show firstA h sz 0 (.rslc 0 []) = some []
      simp only [firstA,nble,Nat.le_refl,decide_true,cond_true,Nat.zero_mul]
      rfl
  | cons a l =>
    show firstA h sz (l.length + 1) (.rslc (l.length + 1) (f a ++ l.flatMap f)) = _
    simp only [firstA,nble,Nat.le_refl,decide_true,cond_true]
    exact takeD_all (len_flat hf (a :: l))
theorem lenA_slV {α : Type} (f : α → List AV) (s : Sl α) : lenA (slV f s) = some s.l.length := by
  obtain ⟨kd,l⟩ := s
  cases l with
  | nil => match kd with
    | 0 => rfl
    | k + 1 => rfl
  | cons a l => rfl
theorem big_ok {n by_ : Nat} (hb : by_ ≤ 1000) (hn : n ≤ 1000001) : (Nat.ble bigBytes (n * by_) || Nat.ble bigBytes n) = false := by
  have h1 : n * by_ ≤ 1000001 * 1000 := Nat.mul_le_mul hn hb
  have hB : 1000001000 < bigBytes := by decide
  have h2 : Nat.ble bigBytes (n * by_) = false := by
    rw [nble]; exact decide_eq_false (by omega)
  have h3 : Nat.ble bigBytes n = false := by
    rw [nble]; exact decide_eq_false (by omega)
  rw [h2,h3]; rfl
theorem app_copy {α : Type} {f : α → List AV} {m x sz by_ : Nat} {t : Tr AB} {s : Sl α} {A : Option (AV × H)} (hf : ∀ a,(f a).length = sz) (hA : appendA ⟨up .e m,t,.lf⟩ sz by_ (.slc (up .e x) 0 0 sz (some 0)) (slV f s) = A)
    (hx : t.get (up .e x) = some (.cells [] false)) (hb : by_ ≤ 1000) (hn : s.l.length ≤ 1000000) (hxm : x < m) :
    ∃ i c m' t',A = some (.slc (up .e i) 0 s.l.length sz c,⟨up .e m',t',.lf⟩) ∧ (i = x ∨ i = m) ∧ m ≤ m' ∧ m' ≤ m + 1 ∧ i < m' ∧ (∀ k,k ≠ m → t'.get (up .e k) = t.get (up .e k)) ∧ (∃ sp,t'.get (up .e i) = some (.cells (s.l.flatMap f) sp)) ∧ (∀ k,c = some k → s.l.length ≤ k) ∧
      (0 < s.l.length → i = m ∧ c = none ∧ m' = m + 1 ∧ t'.get (up .e m) = some (.cells (s.l.flatMap f) true)) := by
  rw [← hA]
  have hzz : Nat.beq sz sz = true := by rw [nbeq]; exact decide_eq_true rfl
  by_cases h0 : s.l.length = 0
  · have hl : s.l = [] := List.eq_nil_of_length_eq_zero h0
    have hff := first_slV hf ⟨up .e m,t,.lf⟩ s
    refine ⟨x,some 0,m,t,?_,.inl rfl,Nat.le_refl _,by omega,hxm,fun _ _ => rfl,⟨false,by rw [hl]; exact hx⟩,(fun k hk => by omega),fun h => by omega⟩
    rw [h0] at hff
    simp only [appendA,lenA_slV,h0,hff,hzz,cond_true,show Nat.beq 0 0 = true from rfl]
  · have hff := first_slV hf ⟨up .e m,t,.lf⟩ s
    have hz : Nat.beq s.l.length 0 = false := by rw [nbeq]; exact decide_eq_false h0
    have hc : Nat.ble s.l.length 0 = false := by rw [nble]; exact decide_eq_false (by omega)
    have hbig := big_ok (n := s.l.length) hb (by omega)
    have htk : takeD ([] : List AV) 0 (0 * sz) = some [] := by rw [Nat.zero_mul]; rfl
    refine ⟨m,none,m + 1,t.put (up .e m) (.cells (s.l.flatMap f) true),?_,.inr rfl,by omega,by omega,by omega,fun k hk => ?_,⟨true,by rw [Tr.get_put,if_pos rfl]⟩,(fun k hk => by cases hk),fun _ => ⟨rfl,rfl,rfl,by rw [Tr.get_put,if_pos rfl]⟩⟩
    · simp only [appendA,lenA_slV,hff,hzz,hz,hc,hbig,cond_true,cond_false,H.cellsAt,hx,htk,List.nil_append,H.newB,up_succ,Nat.zero_add]
    · rw [Tr.get_put,if_neg (fun e => hk (by rw [up_inj] at e; exact e))]
def GateL (Lt : Nat → Nat → Prop) (r : List AV) : Prop := ∃ kd i n c,r = [.int .i64 kd,.slc (up .e i) 0 n 2 c] ∧ n < 90000 ∧ Lt i n ∧ ∀ k,c = some k → n ≤ k
theorem GateL.r {Lt : Nat → Nat → Prop} {r : List AV} (h : GateL Lt r) : GateR Lt r := by
  obtain ⟨kd,i,n,c,rfl,h1,h2,_⟩ := h
  exact ⟨kd,_,rfl,.inr ⟨i,n,c,rfl,h1,h2⟩⟩
theorem GateL.len {Lt : Nat → Nat → Prop} {r : List AV} (h : GateL Lt r) : r.length = 2 := h.r.len
theorem GateL.mono {Et Et' : Nat → Nat → Prop} {r : List AV} (h : GateL Et r) (hl : ∀ i n,Et i n → Et' i n) : GateL Et' r := by
  obtain ⟨kd,i,n,c,rfl,h1,h2,h3⟩ := h
  exact ⟨kd,i,n,c,rfl,h1,hl i n h2,h3⟩
structure OddB (q0 q1 q2 : Int) (nm : List Nat) (fr : Tr AV) (j : Nat) (t : Tr AB) (pv : AV) (rs : List (List AV)) (nb : Nat) (gv : AV) (gs : List (List AV)) (gb : Nat) (Lt : Nat → Nat → Prop) : Prop where
  f3 : fr.get t3 = some (.ptr (up .e 1) 0)
  f4 : fr.get t4 = some (.ptr (up .e 2) 0)
  f5 : fr.get t5 = some (.ptr (up .e 10) 0)
  hj : 12 ≤ j
  a1 : t.get (up .e 1) = some (.cells [.int .i64 q0,.int .i64 q1,.int .i64 q2] false)
  a2 : t.get (up .e 2) = some (.cells [e0,.nils,.nils] false)
  a10 : t.get (up .e 10) = some (.cells [.str nm,pv,gv] false)
  gp : Grow 7 t 11 j nb pv rs
  pr : ∀ r ∈ rs,PadR (fun _ _ => False) r
  gg : Grow 2 t 11 j gb gv gs
  gr : ∀ r ∈ gs,GateL Lt r
  ty : Typed lgC Lt t
  lt : ∀ i n,Lt i n → 11 ≤ i ∧ i < j ∧ i ≠ nb ∧ i ≠ gb
  ne : 11 ≤ nb → 11 ≤ gb → nb ≠ gb
  sp : rs.length ≤ 1000
  sg : gs.length ≤ 1000
def OddI (T : TypD) (q0 q1 q2 : Int) (nm : List Nat) (pv : AV) (rs : List (List AV)) (nb m : Nat) (s : St) : Prop :=
  ∃ fr j t gb gv gs Lt,s = ⟨fr,[],⟨up .e j,t,.lf⟩,.no,none,t7⟩ ∧ gs.length + m = T.gates.l.length ∧ OddB q0 q1 q2 nm fr j t pv rs nb gv gs gb Lt ∧
    fr.get t2 = some (.ptr (up .e 0) 0) ∧ fr.get t6 = some (.int .i64 (.ofNat gs.length)) ∧ t.get (up .e 0) = some (.cells [.str T.nm,slV padC T.pads,slV gateC T.gates] false)
set_option maxHeartbeats 2000000 in
theorem odd_round (T : TypD) (sm : Small T) (hgl : T.gates.l.length ≤ 1000) (q0 q1 q2 : Int) (nm : List Nat) (pv : AV) (rs : List (List AV)) (nb m : Nat) (s : St) (h : OddI T q0 q1 q2 nm pv rs nb m s) :
    Stp (OddI T q0 q1 q2 nm pv rs nb) (fun o => ∃ s,o = .exit 0 s ∧ OddI T q0 q1 q2 nm pv rs nb 0 s) m (execA K2 (callN K2 49) c7_l0 s) := by
  obtain ⟨fr,j,t,gb,gv,gs,Lt,rfl,hk,ob,g2,g6,a0⟩ := h
  obtain ⟨g3,g4,g5,hj,a1,a2,a10,gp,pr,gg,gr,ty,lt,ne,sp,sg⟩ := ob
  cases m with
  | zero =>
    have hkn : (gs.length < T.gates.l.length) = False := eq_false (by omega)
    simp +decide (disch := omega) only [c7_l0,execA,opsA,wantedA,evalAll,evalA,oneA,st_mov,st_load,st_bin,st_fieldAddr,st_len,ld_ptr,H.cellsAt,partA,tk_s,tk_0,tk_c,binAV,St.put,Tr.get_put,if_true,if_false,cond_true,Nat.zero_add,nbeq,decide_true,decide_false,eqK,kindNo,Option.map_some,g2,g6,a0,len_slV,ltI_dec,hkn,stp_e]
    refine ⟨_,rfl,_,j,t,gb,gv,gs,Lt,rfl,hk,⟨?_,?_,?_,hj,a1,a2,a10,gp,pr,gg,gr,ty,lt,ne,sp,sg⟩,?_,?_,a0⟩
    all_goals simp +decide only [Tr.get_put,g2,g3,g4,g5,g6,if_false]
  | succ m =>
    have hkn0 : gs.length < T.gates.l.length := by omega
    have hkn := eq_true hkn0
    have hw := wr_add gs.length 1 (by omega)
    obtain ⟨x,hka⟩ : ∃ x,T.gates.l[gs.length]? = some x := ⟨_,List.getElem?_eq_getElem hkn0⟩
    have ia := at_slV (f := gateC) (sz := 2) len_gate (by decide) hka
    have hxl := sm.legs x (List.mem_of_getElem? hka)
    have z0 := z_ne (i := 0) (j := j) (by omega)
    have z1 := z_ne (i := 10) (j := j) (by omega)
    have y0 := z_ne' (i := 0) (j := j) (by omega)
    have y1 := z_ne' (i := 10) (j := j) (by omega)
    simp +decide only [c7_l0,execA,opsA,wantedA,evalAll,evalA,oneA,dregA,dopsA,dstep,isMaker,withP_nil,takesP_nil,leavesP_nil,rd_mov,rd_build,rd_load,rd_fieldp,rd_fieldr,rd_indexAddr,st_mov,st_load,st_bin,st_fieldAddr,st_indexAddr,st_build,st_fieldr,st_len,st_buildSl,st_append,mk_buildSl,ld_ptr,ld_rn,H.cellsAt,H.newB,partA,tk_s,tk_0,tk_c,fillS,binAV,St.put,Tr.get_put,List.nil_append,List.cons_append,if_true,if_false,cond_true,cond_false,Nat.zero_add,skip_up0,up_up,up_succ,List.drop,List.length,seesHeap,quiet,recheck,nbeq,nble,decide_true,Nat.reduceAdd,Nat.reduceLeDiff,Bool.true_and,Bool.and_true,Bool.and_false,Bool.false_and,Bool.or_false,Bool.or_true,List.all,eqK,kindNo,Option.map_some,beq_rfl,Bool.and_self,Nat.add_assoc,cont_c,cont_n,tkP_c,lvP_c,withP_c,gateC,g2,g5,g6,a0,a10,len_slV,ltI_dec,hkn,ia]
    generalize hA : appendA _ 2 24 _ _ = A
    have hx8 : (t.put (up .e (j + 8)) (.cells [] false)).get (up .e (j + 8)) = some (.cells [] false) := by rw [Tr.get_put,if_pos rfl]
    have ap := app_copy len_lg hA hx8 (by decide) (by omega) (by omega)
    obtain ⟨i,c,m',t',hA2,hi,hm1,hm2,hi2,hkeep,⟨sp',hblk⟩,hcap,_⟩ := ap
    subst hA2
    have told : ∀ k,k < j → t'.get (up .e k) = t.get (up .e k) := fun k hk => by
      rw [hkeep k (by omega),Tr.get_put,if_neg (fun e => by rw [up_inj] at e; omega)]
    have qa0 := (told 0 (by omega)).trans a0
    have qa10 := (told 10 (by omega)).trans a10
    have hgv := gg.one
    have w0 := z_ne (i := 0) (j := m') (by omega)
    have w1 := z_ne (i := 10) (j := m') (by omega)
    have v0 := z_ne' (i := 0) (j := m') (by omega)
    have v1 := z_ne' (i := 10) (j := m') (by omega)
    simp +decide only [withP_nil,takesP_nil,leavesP_nil,st_append,setAt,fillA,fillS,cl_agg,cl_int,cl_slc,Tr.get_put,if_true,if_false,cond_true,Nat.zero_add,Nat.zero_mul,List.length,nbeq,nble,decide_true,decide_false,Nat.reduceAdd,Bool.or_false,Bool.or_true,Option.map_some,Bool.and_self,cont_c,cont_n,tkP_c,lvP_c,withP_c]
    generalize hA3 : appendA _ 2 32 _ _ = A
    generalize hTT : Tr.put _ (up .e (j + 17)) _ = TT at hA3
    have k0 : TT.get (up .e (j + 17)) = some (.cells [.int .i64 x.kd,.slc (up .e i) 0 x.legs.l.length 2 c] false) := by
      rw [← hTT,Tr.get_put,if_pos rfl]
    have kold : ∀ k,k ≠ j + 17 → TT.get (up .e k) = t'.get (up .e k) := fun k hk => by
      rw [← hTT,Tr.get_put,if_neg (fun e => hk (by rw [up_inj] at e; exact e))]
    have hl2 : [AV.int .i64 x.kd,.slc (up .e i) 0 x.legs.l.length 2 c].length = 2 := rfl
    have hon : ones [AV.int .i64 x.kd,.slc (up .e i) 0 x.legs.l.length 2 c] = true := rfl
    have hrow : GateL (fun k n => Lt k n ∨ k = i ∧ n = x.legs.l.length) [.int .i64 x.kd,.slc (up .e i) 0 x.legs.l.length 2 c] := ⟨_,i,x.legs.l.length,c,rfl,hxl,.inr ⟨rfl,rfl⟩,hcap⟩
    generalize [AV.int .i64 x.kd,.slc (up .e i) 0 x.legs.l.length 2 c] = row at k0 hl2 hon hrow
    have kk : ∀ k,k < j → TT.get (up .e k) = t.get (up .e k) := fun k hk => (kold k (by omega)).trans (told k hk)
    have k1 : Grow 2 TT 11 m' gb gv gs := gg.keep (by omega) (fun _ h => kk gb h)
    have k2 : gs.length < 1000000 := by omega
    have k3 : 11 ≤ m' := by omega
    have k4 : ∀ r ∈ gs,r.length = 2 := fun r h => (gr r h).len
    have ap2 := Grow.append k1 hA3 k0 hl2 hon k4 (by decide) k2 k3
    obtain ⟨t2,hA4,b1,b2,b3⟩ := ap2
    subst hA4
    have hgl := gg.lt
    have hpl := gp.lt
    have r0 := (b2 0 (by omega) (fun _ _ => by omega)).trans ((kk 0 (by omega)).trans a0)
    have r1 := (b2 1 (by omega) (fun _ _ => by omega)).trans ((kk 1 (by omega)).trans a1)
    have r2 := (b2 2 (by omega) (fun _ _ => by omega)).trans ((kk 2 (by omega)).trans a2)
    have r10 := (b2 10 (by omega) (fun _ _ => by omega)).trans ((kk 10 (by omega)).trans a10)
    have hpv := gp.one
    simp +decide only [withP_nil,takesP_nil,leavesP_nil,rd_load,rd_fieldp,st_mov,st_store,st_bin,ld_ptr,ld_rn,H.cellsAt,partA,tk_s,tk_0,tk_c,storeA,setAt,ones,on_slc,cl_slc,binAV,Tr.get_put,if_true,if_false,cond_true,cond_false,Nat.zero_add,List.length,recheck,nbeq,nble,decide_true,decide_false,Nat.reduceLeDiff,Bool.and_false,List.all,eqK,kindNo,Option.map_some,beq_rfl,Bool.and_self,g5,g6,a0,a10,qa0,qa10,r0,r10,hw,stp_n]
    have pn : ∀ X : AB,Grow 7 (t2.put (up .e 10) X) 11 (m' + 1) nb pv rs := fun X => gp.keep (by omega) (fun h1 h2 => by
      rw [Tr.get_put,if_neg (fun e => by rw [up_inj] at e; omega)]
      exact (b2 nb (by omega) (fun h3 _ => ne h1 h3)).trans (kk nb h2))
    have gn : ∀ X : AB,Grow 2 (t2.put (up .e 10) X) 11 (m' + 1) m' (.slc (up .e m') 0 (gs.length + 1) 2 none) (gs ++ [row]) := fun X => b3.keep (Nat.le_refl _) (fun _ _ => by
      rw [Tr.get_put,if_neg (fun e => by rw [up_inj] at e; omega)])
    have tn : ∀ X : AB, Typed lgC (fun k n => Lt k n ∨ k = i ∧ n = x.legs.l.length) (t2.put (up .e 10) X) := fun X => by
      have hi3 : i ≠ 10 ∧ i ≠ m' ∧ i ≠ gb ∧ i ≠ j + 17 := by
        rcases hi with rfl | rfl <;> omega
      intro k n hk
      rw [Tr.get_put, if_neg (fun e => by rw [up_inj] at e; rcases hk with h | ⟨h,_⟩; · have := lt k n h; omega
                                          · omega)]
      rcases hk with h | ⟨rfl,rfl⟩
      · have h1 := lt k n h
        obtain ⟨ls,sp,h2,h3⟩ := ty k n h
        exact ⟨ls,sp,h2,(b2 k (by omega) (fun _ _ => by omega)).trans ((kk k (by omega)).trans h3)⟩
      · exact ⟨x.legs.l,sp',Nat.le_refl _,(b2 k (by omega) (fun _ _ => by omega)).trans ((kold k (by omega)).trans hblk)⟩
    have hll : (gs ++ [row]).length = gs.length + 1 := by rw [List.length_append]; rfl
    have hi3 : 11 ≤ i ∧ i < m' ∧ i ≠ nb := by
      rcases hi with rfl | rfl <;> omega
    refine ⟨m,by omega,_,m' + 1,_,m',_,gs ++ [row],fun k n => Lt k n ∨ k = i ∧ n = x.legs.l.length,rfl,by omega,⟨?_,?_,?_,by omega,?_,?_,by rw [Tr.get_put,if_pos rfl],pn _,pr,gn _,fun r h => ?_,tn _,fun k n hk => ?_,by omega,sp,by omega⟩,?_,?_,?_⟩
    any_goals simp +decide (disch := omega) only [Tr.get_put,g2,g3,g4,g5,r0,r1,r2,hll,if_true,if_false]
    · rcases List.mem_append.1 h with h | h
      · exact (gr r h).mono (fun _ _ h => .inl h)
      · rw [List.mem_singleton.1 h]
        exact hrow
    · rcases hk with h | ⟨rfl,rfl⟩
      · have := lt k n h
        omega
      · omega
end Go.Abs.Sym
end
