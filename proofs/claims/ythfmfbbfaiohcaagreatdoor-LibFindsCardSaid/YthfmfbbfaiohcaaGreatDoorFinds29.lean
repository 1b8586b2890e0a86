/- A part of the proof that LibFinds answers true at every input: AbsSym13, AbsSym14, AbsSym15, AbsSym16, AbsSym17. -/
import Derived.Test.YthfmfbbfaiohcaaGreatDoorFinds28
section
namespace Go.Abs.Sym
open Go.Abs.T
open Go.Proofs
theorem kf1 : K1.fuel = 100000 := rfl
theorem old_ne (j : Nat) {i : Nat} (h : i < j) : (up Pth.e i = up Pth.e j) = False := by rw [up_inj]; exact eq_false (by omega)
def Two (T U : TypD) (t : Tr AB) : Prop := t.get (up .e 0) = some (.cells [.str T.nm,slV padC T.pads,slV gateC T.gates] false) ∧ t.get (up .e 1) = some (.cells [.str U.nm,slV padC U.pads,slV gateC U.gates] false)
theorem Two.put {T U : TypD} {t : Tr AB} (h : Two T U t) {j : Nat} (hj : 2 ≤ j) (x : AB) : Two T U (t.put (up .e j) x) := by
  have h1 := old_ne (i := 0) j (by omega)
  have h2 := old_ne (i := 1) j (by omega)
  exact ⟨by rw [Tr.get_put,if_neg (of_eq_false h1)]; exact h.1,by rw [Tr.get_put,if_neg (of_eq_false h2)]; exact h.2⟩
def Aft (T U : TypD) (e : Nat) (b : Bool) (o : Out) : Prop :=
  ∃ fr j t',((o = .exit e ⟨fr,[],⟨up .e j,t',.lf⟩,.no,none,t13⟩ ∧ b = true) ∨ (o = .ret ⟨fr,[],⟨up .e j,t',.lf⟩,.no,none,t13⟩ ∧ fr.get t4 = some (.bool false) ∧ b = false)) ∧ 2 ≤ j ∧
    fr.get t2 = some (.ptr (up .e 0) 0) ∧ fr.get t3 = some (.ptr (up .e 1) 0) ∧ Two T U t'
theorem same13_l0 (T U : TypD) (sm : Small T) (hn : T.pads.l.length = U.pads.l.length) (fr : Tr AV) (t : Tr AB) (g2 : fr.get t2 = some (.ptr (up .e 0) 0)) (g3 : fr.get t3 = some (.ptr (up .e 1) 0))
    (hab : Two T U t) (g5 : fr.get t5 = some i0) :
    Aft T U 0 (all2 samePad T.pads.l U.pads.l) (iterA (execA K1 (callN K1 49) c13_l0) 100000 ⟨fr,[],⟨up .e 2,t,.lf⟩,.no,none,t13⟩) := by
  have hl := sm.pads
  refine iter_rule (fun m s => ∃ fr j t' k,s = ⟨fr,[],⟨up .e j,t',.lf⟩,.no,none,t13⟩ ∧ k + m = T.pads.l.length ∧ all2 samePad T.pads.l U.pads.l = all2 samePad (T.pads.l.drop k) (U.pads.l.drop k) ∧ 2 ≤ j ∧ Two T U t' ∧ fr.get t2 = some (.ptr (up .e 0) 0) ∧ fr.get t3 = some (.ptr (up .e 1) 0) ∧ fr.get t5 = some (.int .i64 (.ofNat k)))
    (Aft T U 0 (all2 samePad T.pads.l U.pads.l)) ?_ 100000 T.pads.l.length _ ⟨_,2,t,0,rfl,by omega,rfl,Nat.le_refl _,hab,g2,g3,g5⟩ (by omega)
  rintro m s ⟨fr,j,t',k,rfl,hk,hpl,hj,hab,g2,g3,g5⟩
  obtain ⟨ha,hb⟩ := hab
  cases m with
  | zero =>
    have hkn : (k < T.pads.l.length) = False := eq_false (by omega)
    simp +decide only [c13_l0,execA,opsA,wantedA,evalAll,evalA,oneA,st_mov,st_load,st_bin,st_fieldAddr,st_len,ld_ptr,H.cellsAt,partA,tk_s,tk_0,tk_c,binAV,St.put,Tr.get_put,if_true,if_false,cond_true,Nat.zero_add,nbeq,decide_true,decide_false,eqK,kindNo,Option.map_some,len_slV,g2,g5,ha,ltI_dec,hkn,stp_e]
    refine ⟨_,j,t',.inl ⟨rfl,?_⟩,hj,?_,?_,ha,hb⟩
    · rw [hpl,List.drop_of_length_le (by omega),List.drop_of_length_le (by omega)]
      rfl
    all_goals simp +decide only [Tr.get_put,g2,g3,if_false]
  | succ m =>
    have hkn : (k < T.pads.l.length) = True := eq_true (by omega)
    obtain ⟨x,hka⟩ : ∃ x,T.pads.l[k]? = some x := ⟨_,List.getElem?_eq_getElem (by omega)⟩
    obtain ⟨y,hkb⟩ : ∃ y,U.pads.l[k]? = some y := ⟨_,List.getElem?_eq_getElem (by omega)⟩
    have ia := at_slV (f := padC) (sz := 7) len_pad (by decide) hka
    have ib := at_slV (f := padC) (sz := 7) len_pad (by decide) hkb
    have hw := wr_add k 1 (by omega)
    have hcall : ∀ h,callN K1 49 (.fn t12 [] []) [shV x.kd x.es x.r,shV y.kd y.es y.r] h = .ret (.bool (sameSh x.kd x.es x.r y.kd y.es y.r)) h := fun h => call_sum (same12_sum _ _ _ _ _ _ (sm.es x (List.mem_of_getElem? hka)) h)
    simp only [shV] at hcall
    rw [all2_step hka hkb] at hpl
    have e0 : (0 = j) = False := eq_false (by omega)
    have e1 : (1 = j) = False := eq_false (by omega)
    have e2 : (0 = j + 1) = False := eq_false (by omega)
    have e3 : (1 = j + 1) = False := eq_false (by omega)
    have e4 : (j = j + 1) = False := eq_false (by omega)
    have hput : ∀ u v u' v',Two T U ((((t'.put (up .e j) u).put (up .e j) v).put (up .e (j + 1)) u').put (up .e (j + 1)) v') := fun _ _ _ _ => ((((Two.put ⟨ha,hb⟩ hj _).put hj _).put (by omega) _).put (by omega) _)
    have hput : ∀ u v u' v',Two T U ((((t'.put (up .e j) u).put (up .e j) v).put (up .e (j + 1)) u').put (up .e (j + 1)) v') := fun _ _ _ _ => ((((Two.put ⟨ha,hb⟩ hj _).put hj _).put (by omega) _).put (by omega) _)
    have fin : ∀ b : Bool,samePad x y = b → Stp (fun m s => ∃ fr j t' k,s = ⟨fr,[],⟨up .e j,t',.lf⟩,.no,none,t13⟩ ∧ k + m = T.pads.l.length ∧ all2 samePad T.pads.l U.pads.l = all2 samePad (T.pads.l.drop k) (U.pads.l.drop k) ∧ 2 ≤ j ∧ Two T U t' ∧ fr.get t2 = some (.ptr (up .e 0) 0) ∧ fr.get t3 = some (.ptr (up .e 1) 0) ∧ fr.get t5 = some (.int .i64 (.ofNat k)))
        (Aft T U 0 (all2 samePad T.pads.l U.pads.l)) (m + 1) (execA K1 (callN K1 49) c13_l0 ⟨fr,[],⟨up .e j,t',.lf⟩,.no,none,t13⟩) := by
      intro b hsp
      cases b with
      | true =>
        rw [hsp,Bool.true_and] at hpl
        simp only [samePad,Bool.and_eq_true,decide_eq_true_eq] at hsp
        obtain ⟨h1,h2,h3,h4⟩ := hsp
        simp +decide only [c13_l0,execA,opsA,wantedA,evalAll,evalA,oneA,st_mov,st_alloc,st_load,st_store,st_bin,st_not,st_call,st_fieldAddr,st_indexAddr,st_pick,st_len,ld_ptr,ld_rs,H.cellsAt,H.newB,partA,tk_s,tk_0,tk_c,storeA,setAt,ones,cl_agg,on_int,on_str,on_slV,binAV,eqAV,St.put,Tr.get_put,List.nil_append,List.cons_append,if_true,if_false,cond_true,cond_false,Nat.zero_add,Nat.add_zero,up_succ,up_inj,List.length,nbeq,decide_true,Nat.reduceAdd,Bool.and_true,Bool.not_true,eqK,kindNo,Option.map_some,beq_self_eq_true,padC,len_slV,g2,g3,g5,ha,hb,ltI_dec,hkn,ia,ib,e1,e4,eqS_dec,eqI_dec,eq_pt,h1,h2,h3,hcall,h4,hw,stp_n]
        refine ⟨m,by omega,_,j + 2,_,k + 1,rfl,by omega,hpl,by omega,hput _ _ _ _,?_,?_,?_⟩
        all_goals simp +decide only [Tr.get_put,g2,g3,if_true,if_false]
      | false =>
        rw [hsp,Bool.false_and] at hpl
        simp only [samePad] at hsp
        have done : ∀ F : Tr AV,F.get t4 = some (.bool false) → F.get t2 = some (.ptr (up .e 0) 0) → F.get t3 = some (.ptr (up .e 1) 0) → ∀ u v u' v',Aft T U 0 (all2 samePad T.pads.l U.pads.l) (.ret ⟨F,[],⟨up .e (j + 2),(((t'.put (up .e j) u).put (up .e j) v).put (up .e (j + 1)) u').put (up .e (j + 1)) v',.lf⟩,.no,none,t13⟩) :=
          fun F f4 f2 f3 u v u' v' => ⟨F,j + 2,_,.inr ⟨rfl,f4,hpl⟩,by omega,f2,f3,hput _ _ _ _⟩
        by_cases h1 : x.nm = y.nm
        · by_cases h2 : x.x = y.x ∧ x.y = y.y
          · by_cases h3 : x.dr = y.dr
            · have h4 : sameSh x.kd x.es x.r y.kd y.es y.r = false := by simpa only [h1,h2,h3,decide_true,Bool.true_and,true_and,and_self] using hsp
              simp +decide only [c13_l0,execA,opsA,wantedA,evalAll,evalA,oneA,st_mov,st_alloc,st_load,st_store,st_bin,st_not,st_call,st_fieldAddr,st_indexAddr,st_pick,st_len,ld_ptr,ld_rs,H.cellsAt,H.newB,partA,tk_s,tk_0,tk_c,storeA,setAt,ones,cl_agg,on_int,on_str,on_slV,binAV,eqAV,St.put,Tr.get_put,List.nil_append,List.cons_append,if_true,if_false,cond_true,cond_false,Nat.zero_add,Nat.add_zero,up_succ,up_inj,List.length,nbeq,decide_true,Nat.reduceAdd,Bool.and_true,Bool.not_true,Bool.not_false,eqK,kindNo,Option.map_some,beq_self_eq_true,padC,len_slV,g2,g3,g5,ha,hb,ltI_dec,hkn,ia,ib,e1,e4,eqS_dec,eqI_dec,eq_pt,h1,h2,h3,hcall,h4,stp_r]
              refine done _ ?_ ?_ ?_ _ _ _ _ <;> simp +decide only [Tr.get_put,g2,g3,if_true,if_false]
            · simp +decide only [c13_l0,execA,opsA,wantedA,evalAll,evalA,oneA,st_mov,st_alloc,st_load,st_store,st_bin,st_fieldAddr,st_indexAddr,st_pick,st_len,ld_ptr,ld_rs,H.cellsAt,H.newB,partA,tk_s,tk_0,tk_c,storeA,setAt,ones,cl_agg,on_int,on_str,on_slV,binAV,eqAV,St.put,Tr.get_put,List.nil_append,List.cons_append,if_true,if_false,cond_true,cond_false,Nat.zero_add,Nat.add_zero,up_succ,up_inj,List.length,nbeq,decide_true,decide_false,Nat.reduceAdd,Bool.and_true,Bool.not_true,Bool.not_false,eqK,kindNo,Option.map_some,beq_self_eq_true,beq_f,padC,len_slV,g2,g3,g5,ha,hb,ltI_dec,hkn,ia,ib,e1,e4,eqS_dec,eqI_dec,eq_pt,h1,h2,h3,stp_r]
              refine done _ ?_ ?_ ?_ _ _ _ _ <;> simp +decide only [Tr.get_put,g2,g3,if_true,if_false]
          · simp +decide only [c13_l0,execA,opsA,wantedA,evalAll,evalA,oneA,st_mov,st_alloc,st_load,st_store,st_bin,st_fieldAddr,st_indexAddr,st_pick,st_len,ld_ptr,ld_rs,H.cellsAt,H.newB,partA,tk_s,tk_0,tk_c,storeA,setAt,ones,cl_agg,on_int,on_str,on_slV,binAV,eqAV,St.put,Tr.get_put,List.nil_append,List.cons_append,if_true,if_false,cond_true,cond_false,Nat.zero_add,Nat.add_zero,up_succ,up_inj,List.length,nbeq,decide_true,decide_false,Nat.reduceAdd,Bool.and_true,Bool.not_true,Bool.not_false,eqK,kindNo,Option.map_some,beq_self_eq_true,beq_f,padC,len_slV,g2,g3,g5,ha,hb,ltI_dec,hkn,ia,ib,e1,e4,eqS_dec,eq_pt,h1,h2,stp_r]
            refine done _ ?_ ?_ ?_ _ _ _ _ <;> simp +decide only [Tr.get_put,g2,g3,if_true,if_false]
        · simp +decide only [c13_l0,execA,opsA,wantedA,evalAll,evalA,oneA,st_mov,st_alloc,st_load,st_store,st_bin,st_fieldAddr,st_indexAddr,st_pick,st_len,ld_ptr,ld_rs,H.cellsAt,H.newB,partA,tk_s,tk_0,tk_c,storeA,setAt,ones,cl_agg,on_int,on_str,on_slV,binAV,eqAV,St.put,Tr.get_put,List.nil_append,List.cons_append,if_true,if_false,cond_true,Nat.zero_add,Nat.add_zero,up_succ,up_inj,List.length,nbeq,decide_true,decide_false,Nat.reduceAdd,Bool.and_true,Bool.not_true,Bool.not_false,eqK,kindNo,Option.map_some,beq_f,padC,len_slV,g2,g3,g5,ha,hb,ltI_dec,hkn,ia,ib,e1,e4,eqS_dec,h1,stp_r]
          refine done _ ?_ ?_ ?_ _ _ _ _ <;> simp +decide only [Tr.get_put,g2,g3,if_true,if_false]
    exact fin _ rfl
end Go.Abs.Sym
end
section
namespace Go.Abs.Sym
open Go.Abs.T
open Go.Proofs
theorem same13_l1 (g k : GateD) (hl : g.legs.l.length < 90000) (hn : g.legs.l.length = k.legs.l.length) {fr : Tr AV} {i : Nat} {t : Tr AB} {p q : Pth} {a b : AV} {o : Out} (hit : iterA (execA K1 (callN K1 49) c13_l1) 100000 ⟨fr,[],⟨up .e i,t,.lf⟩,.no,none,t13⟩ = o) (g9 : fr.get t9 = some (.ptr p 0)) (g10 : fr.get t10 = some (.ptr q 0))
    (ha : t.get p = some (.cells [a,slV lgC g.legs] false)) (hb : t.get q = some (.cells [b,slV lgC k.legs] false)) (g11 : fr.get t11 = some i0) :
    ∃ fr' i',((o = .exit 4 ⟨fr',[],⟨up .e i',t,.lf⟩,.no,none,t13⟩ ∧ g.legs.l = k.legs.l) ∨
      (o = .ret ⟨fr',[],⟨up .e i',t,.lf⟩,.no,none,t13⟩ ∧ fr'.get t4 = some (.bool false) ∧ g.legs.l ≠ k.legs.l)) ∧
      i ≤ i' ∧ fr'.get t2 = fr.get t2 ∧ fr'.get t3 = fr.get t3 ∧ fr'.get t8 = fr.get t8 := by
  rw [← hit]
  refine iter_rule (fun m s => ∃ fr' i' n,s = ⟨fr',[],⟨up .e i',t,.lf⟩,.no,none,t13⟩ ∧ n + m = g.legs.l.length ∧ g.legs.l.take n = k.legs.l.take n ∧ fr'.get t9 = some (.ptr p 0) ∧ fr'.get t10 = some (.ptr q 0) ∧ fr'.get t11 = some (.int .i64 (.ofNat n)) ∧ i ≤ i' ∧ fr'.get t2 = fr.get t2 ∧ fr'.get t3 = fr.get t3 ∧ fr'.get t8 = fr.get t8)
    (fun o => ∃ fr' i',((o = .exit 4 ⟨fr',[],⟨up .e i',t,.lf⟩,.no,none,t13⟩ ∧ g.legs.l = k.legs.l) ∨ (o = .ret ⟨fr',[],⟨up .e i',t,.lf⟩,.no,none,t13⟩ ∧ fr'.get t4 = some (.bool false) ∧ g.legs.l ≠ k.legs.l)) ∧
      i ≤ i' ∧ fr'.get t2 = fr.get t2 ∧ fr'.get t3 = fr.get t3 ∧ fr'.get t8 = fr.get t8) ?_ 100000 g.legs.l.length _ ⟨fr,i,0,rfl,by omega,rfl,g9,g10,g11,Nat.le_refl _,rfl,rfl,rfl⟩ (by omega)
  rintro m s ⟨fr',i',n,rfl,hk,hpre,g9,g10,g11,hi,k2,k3,k8⟩
  cases m with
  | zero =>
    have hkn : (n < g.legs.l.length) = False := eq_false (by omega)
    simp +decide only [c13_l1,execA,opsA,wantedA,evalAll,evalA,oneA,st_mov,st_load,st_bin,st_fieldAddr,st_len,ld_ptr,H.cellsAt,partA,tk_s,tk_0,tk_c,binAV,St.put,Tr.get_put,if_true,if_false,cond_true,Nat.zero_add,nbeq,decide_true,decide_false,eqK,kindNo,Option.map_some,len_slV,g9,g11,ha,ltI_dec,hkn,stp_e]
    refine ⟨_,_,.inl ⟨rfl,?_⟩,hi,?_,?_,?_⟩
    · rwa [List.take_of_length_le (by omega),List.take_of_length_le (by omega)] at hpre
    all_goals simp +decide only [Tr.get_put,k2,k3,k8,if_false]
  | succ m =>
    have hkn : (n < g.legs.l.length) = True := eq_true (by omega)
    obtain ⟨x,hka⟩ : ∃ x,g.legs.l[n]? = some x := ⟨_,List.getElem?_eq_getElem (by omega)⟩
    obtain ⟨y,hkb⟩ : ∃ y,k.legs.l[n]? = some y := ⟨_,List.getElem?_eq_getElem (by omega)⟩
    have ia := at_slV (f := lgC) (sz := 2) len_lg (by decide) hka
    have ib := at_slV (f := lgC) (sz := 2) len_lg (by decide) hkb
    have hw := wr_add n 1 (by omega)
    by_cases he : x = y
    · simp +decide only [c13_l1,execA,opsA,wantedA,evalAll,evalA,oneA,dregA,dopsA,dstep,isMaker,withP_nil,takesP_nil,leavesP_nil,rd_mov,rd_load,rd_bin,rd_fieldp,rd_indexAddr,st_mov,st_load,st_bin,st_fieldAddr,st_indexAddr,st_len,ld_ptr,ld_rs,H.cellsAt,partA,tk_s,tk_0,tk_c,binAV,eqAV,St.put,Tr.get_put,if_true,if_false,cond_true,cond_false,Nat.zero_add,skip_up0,up_up,up_succ,List.length,seesHeap,quiet,nbeq,decide_true,Nat.reduceAdd,Bool.and_true,Bool.and_false,Bool.or_true,Bool.not_true,List.all,eqK,kindNo,Option.map_some,len_slV,g9,g10,g11,ha,hb,ltI_dec,hkn,ia,ib,tk_lg,len_lg,eq_lg,he,hw,stp_n]
      refine ⟨m,by omega,_,_,n + 1,rfl,by omega,?_,?_,?_,?_,by omega,?_,?_,?_⟩
      · rw [List.take_add_one,List.take_add_one,hpre,hka,hkb,he]
      all_goals simp +decide only [Tr.get_put,g9,g10,k2,k3,k8,if_true,if_false]
    · simp +decide only [c13_l1,execA,opsA,wantedA,evalAll,evalA,oneA,dregA,dopsA,dstep,isMaker,withP_nil,takesP_nil,leavesP_nil,rd_mov,rd_load,rd_bin,rd_fieldp,rd_indexAddr,st_mov,st_load,st_bin,st_fieldAddr,st_indexAddr,st_len,ld_ptr,ld_rs,H.cellsAt,partA,tk_s,tk_0,tk_c,binAV,eqAV,St.put,Tr.get_put,if_true,if_false,cond_true,cond_false,Nat.zero_add,skip_up0,up_up,up_succ,List.length,seesHeap,quiet,nbeq,decide_true,decide_false,Nat.reduceAdd,Bool.and_true,Bool.and_false,Bool.or_true,Bool.not_false,List.all,eqK,kindNo,Option.map_some,len_slV,g9,g10,g11,ha,hb,ltI_dec,hkn,ia,ib,tk_lg,len_lg,eq_lg,he,stp_r]
      refine ⟨_,_,.inr ⟨rfl,by simp +decide only [Tr.get_put,if_true,reduceIte],fun e => he ?_⟩,by omega,?_,?_,?_⟩
      · rw [e,hkb] at hka
        exact (Option.some.inj hka).symm
      all_goals simp +decide only [Tr.get_put,k2,k3,k8,if_false]
theorem same13_l2 (T U : TypD) (sm : Small T) (hn : T.gates.l.length = U.gates.l.length) (fr : Tr AV) (j : Nat) (t : Tr AB) (hj : 2 ≤ j) (g2 : fr.get t2 = some (.ptr (up .e 0) 0)) (g3 : fr.get t3 = some (.ptr (up .e 1) 0))
    (hab : Two T U t) (g8 : fr.get t8 = some i0) :
    Aft T U 2 (all2 sameGate T.gates.l U.gates.l) (iterA (execA K1 (callN K1 49) c13_l2) 100000 ⟨fr,[],⟨up .e j,t,.lf⟩,.no,none,t13⟩) := by
  have hl := sm.gates
  refine iter_rule (fun m s => ∃ fr j t' k,s = ⟨fr,[],⟨up .e j,t',.lf⟩,.no,none,t13⟩ ∧ k + m = T.gates.l.length ∧ all2 sameGate T.gates.l U.gates.l = all2 sameGate (T.gates.l.drop k) (U.gates.l.drop k) ∧ 2 ≤ j ∧ Two T U t' ∧ fr.get t2 = some (.ptr (up .e 0) 0) ∧ fr.get t3 = some (.ptr (up .e 1) 0) ∧ fr.get t8 = some (.int .i64 (.ofNat k)))
    (Aft T U 2 (all2 sameGate T.gates.l U.gates.l)) ?_ 100000 T.gates.l.length _ ⟨_,j,t,0,rfl,by omega,rfl,hj,hab,g2,g3,g8⟩ (by omega)
  rintro m s ⟨fr,j,t',k,rfl,hk,hpl,hj,hab,g2,g3,g8⟩
  obtain ⟨ha,hb⟩ := hab
  cases m with
  | zero =>
    have hkn : (k < T.gates.l.length) = False := eq_false (by omega)
    simp +decide only [c13_l2,execA,opsA,wantedA,evalAll,evalA,oneA,st_mov,st_load,st_bin,st_fieldAddr,st_len,ld_ptr,H.cellsAt,partA,tk_s,tk_0,tk_c,binAV,St.put,Tr.get_put,if_true,if_false,cond_true,Nat.zero_add,nbeq,decide_true,decide_false,eqK,kindNo,Option.map_some,len_slV,g2,g8,ha,ltI_dec,hkn,stp_e]
    refine ⟨_,j,t',.inl ⟨rfl,?_⟩,hj,?_,?_,ha,hb⟩
    · rw [hpl,List.drop_of_length_le (by omega),List.drop_of_length_le (by omega)]
      rfl
    all_goals simp +decide only [Tr.get_put,g2,g3,if_false]
  | succ m =>
    have hkn : (k < T.gates.l.length) = True := eq_true (by omega)
    obtain ⟨x,hka⟩ : ∃ x,T.gates.l[k]? = some x := ⟨_,List.getElem?_eq_getElem (by omega)⟩
    obtain ⟨y,hkb⟩ : ∃ y,U.gates.l[k]? = some y := ⟨_,List.getElem?_eq_getElem (by omega)⟩
    have ia := at_slV (f := gateC) (sz := 2) len_gate (by decide) hka
    have ib := at_slV (f := gateC) (sz := 2) len_gate (by decide) hkb
    have hw := wr_add k 1 (by omega)
    rw [all2_step hka hkb] at hpl
    have e0 : (0 = j) = False := eq_false (by omega)
    have e1 : (1 = j) = False := eq_false (by omega)
    have e2 : (0 = j + 1) = False := eq_false (by omega)
    have e3 : (1 = j + 1) = False := eq_false (by omega)
    have e4 : (j = j + 1) = False := eq_false (by omega)
    have hput : ∀ u v u' v',Two T U ((((t'.put (up .e j) u).put (up .e j) v).put (up .e (j + 1)) u').put (up .e (j + 1)) v') := fun _ _ _ _ => ((((Two.put ⟨ha,hb⟩ hj _).put hj _).put (by omega) _).put (by omega) _)
    by_cases h1 : x.kd = y.kd
    · by_cases h2 : x.legs.l.length = y.legs.l.length
      · simp +decide only [c13_l2,execA,opsA,wantedA,evalAll,evalA,oneA,st_mov,st_alloc,st_load,st_store,st_bin,st_fieldAddr,st_indexAddr,st_pick,st_len,ld_ptr,ld_rs,H.cellsAt,H.newB,partA,tk_s,tk_0,tk_c,storeA,setAt,ones,cl_agg,on_int,on_slV,binAV,eqAV,St.put,Tr.get_put,List.nil_append,List.cons_append,if_true,if_false,cond_true,cond_false,Nat.zero_add,Nat.add_zero,up_succ,up_inj,List.length,nbeq,decide_true,Nat.reduceAdd,Bool.and_true,Bool.not_true,eqK,kindNo,Option.map_some,beq_self_eq_true,gateC,len_slV,g2,g3,g8,ha,hb,ltI_dec,hkn,ia,ib,e1,e4,eqI_dec,h1,h2,kf1]
        generalize hit : iterA (execA K1 (callN K1 49) c13_l1) 100000 _ = o
        obtain ⟨fr',i',hor,hi,k2,k3,k8⟩ := same13_l1 x y (sm.legs x (List.mem_of_getElem? hka)) h2 hit (p := up .e j) (q := up .e (j + 1)) (a := .int .i64 y.kd) (b := .int .i64 y.kd) (by simp +decide only [Tr.get_put,if_true,if_false]) (by simp +decide only [Tr.get_put,if_true,if_false])
          (by simp +decide only [Tr.get_put,up_inj,e4,if_true,if_false]) (by simp +decide only [Tr.get_put,up_inj,if_true]) (by simp +decide only [Tr.get_put,if_true,if_false])
        simp +decide only [Tr.get_put,g2,g3,g8,if_false] at k2 k3 k8
        rcases hor with ⟨rfl,hle⟩ | ⟨rfl,k4,hle⟩
        · have hsp : sameGate x y = true := by simp only [sameGate,h1,hle,decide_true,Bool.and_self]
          rw [hsp,Bool.true_and] at hpl
          simp +decide only [st_mov,st_bin,binAV,Tr.get_put,if_true,if_false,cond_true,nbeq,decide_true,eqK,kindNo,k8,hw,stp_n]
          refine ⟨m,by omega,_,i',_,k + 1,rfl,by omega,hpl,by omega,hput _ _ _ _,?_,?_,?_⟩
          all_goals simp +decide only [Tr.get_put,k2,k3,if_true,if_false]
        · have hsp : sameGate x y = false := by simp only [sameGate,h1,hle,decide_true,decide_false,Bool.and_false]
          rw [hsp,Bool.false_and] at hpl
          simp +decide only [stp_r]
          exact ⟨_,i',_,.inr ⟨rfl,k4,hpl⟩,by omega,k2,k3,hput _ _ _ _⟩
      · have hsp : sameGate x y = false := by
          have : x.legs.l ≠ y.legs.l := fun e => h2 (by rw [e])
          simp only [sameGate,this,decide_false,Bool.and_false]
        rw [hsp,Bool.false_and] at hpl
        simp +decide only [c13_l2,execA,opsA,wantedA,evalAll,evalA,oneA,st_mov,st_alloc,st_load,st_store,st_bin,st_fieldAddr,st_indexAddr,st_pick,st_len,ld_ptr,ld_rs,H.cellsAt,H.newB,partA,tk_s,tk_0,tk_c,storeA,setAt,ones,cl_agg,on_int,on_slV,binAV,eqAV,St.put,Tr.get_put,List.nil_append,List.cons_append,if_true,if_false,cond_true,cond_false,Nat.zero_add,Nat.add_zero,up_succ,up_inj,List.length,nbeq,decide_true,decide_false,Nat.reduceAdd,Bool.and_true,Bool.not_true,Bool.not_false,eqK,kindNo,Option.map_some,beq_self_eq_true,gateC,len_slV,g2,g3,g8,ha,hb,ltI_dec,hkn,ia,ib,e1,e4,eqI_dec,Int.ofNat.injEq,h1,h2,stp_r]
        refine ⟨_,j + 2,_,.inr ⟨rfl,?_,hpl⟩,by omega,?_,?_,hput _ _ _ _⟩
        all_goals simp +decide only [Tr.get_put,g2,g3,if_true,if_false]
    · have hsp : sameGate x y = false := by simp only [sameGate,h1,decide_false,Bool.false_and]
      rw [hsp,Bool.false_and] at hpl
      simp +decide only [c13_l2,execA,opsA,wantedA,evalAll,evalA,oneA,st_mov,st_alloc,st_load,st_store,st_bin,st_fieldAddr,st_indexAddr,st_pick,st_len,ld_ptr,ld_rs,H.cellsAt,H.newB,partA,tk_s,tk_0,tk_c,storeA,setAt,ones,cl_agg,on_int,on_slV,binAV,eqAV,St.put,Tr.get_put,List.nil_append,List.cons_append,if_true,if_false,cond_true,Nat.zero_add,Nat.add_zero,up_succ,up_inj,List.length,nbeq,decide_true,decide_false,Nat.reduceAdd,Bool.and_true,Bool.not_true,Bool.not_false,eqK,kindNo,Option.map_some,beq_f,gateC,len_slV,g2,g3,g8,ha,hb,ltI_dec,hkn,ia,ib,e1,e4,eqI_dec,h1,stp_r]
      refine ⟨_,j + 2,_,.inr ⟨rfl,?_,hpl⟩,by omega,?_,?_,hput _ _ _ _⟩
      all_goals simp +decide only [Tr.get_put,g2,g3,if_true,if_false]
theorem same13_l0' (T U : TypD) (sm : Small T) (hn : T.pads.l.length = U.pads.l.length) {fr : Tr AV} {t : Tr AB} {o : Out} (hit : iterA (execA K1 (callN K1 49) c13_l0) 100000 ⟨fr,[],⟨up .e 2,t,.lf⟩,.no,none,t13⟩ = o)
    (g2 : fr.get t2 = some (.ptr (up .e 0) 0)) (g3 : fr.get t3 = some (.ptr (up .e 1) 0)) (hab : Two T U t) (g5 : fr.get t5 = some i0) : Aft T U 0 (all2 samePad T.pads.l U.pads.l) o := hit ▸ same13_l0 T U sm hn fr t g2 g3 hab g5
theorem same13_l2' (T U : TypD) (sm : Small T) (hn : T.gates.l.length = U.gates.l.length) {fr : Tr AV} {j : Nat} {t : Tr AB} {o : Out} (hit : iterA (execA K1 (callN K1 49) c13_l2) 100000 ⟨fr,[],⟨up .e j,t,.lf⟩,.no,none,t13⟩ = o) (hj : 2 ≤ j)
    (g2 : fr.get t2 = some (.ptr (up .e 0) 0)) (g3 : fr.get t3 = some (.ptr (up .e 1) 0)) (hab : Two T U t) (g8 : fr.get t8 = some i0) : Aft T U 2 (all2 sameGate T.gates.l U.gates.l) o := hit ▸ same13_l2 T U sm hn fr j t hj g2 g3 hab g8
theorem same13 (T U : TypD) (sm : Small T) : Ret (callN K1 50 (.fn t13 [] []) [.agg (tyC T),.agg (tyC U)] h0) (fun v _ => v = .bool (sameT T U)) := by
  have hs : ∀ xs,K1.sums t13 xs h0 = none := fun _ => rfl
  have hF : K1.funcs.get t13 = some c13 := rfl
  refine begin2 (hs _) hF fun fr t ga gb => ?_
  simp only [tyC] at ga gb
  rw [c13_eq]
  by_cases h1 : T.nm = U.nm
  · by_cases h2 : T.pads.l.length = U.pads.l.length
    · by_cases h3 : T.gates.l.length = U.gates.l.length
      · simp +decide only [execA,opsA,wantedA,evalAll,evalA,oneA,st_mov,st_box,st_load,st_bin,st_fieldAddr,st_pick,st_len,ld_ptr,H.cellsAt,H.newB,partA,tk_s,tk_0,tk_c,cl_agg,binAV,eqAV,St.put,Tr.get_put,if_true,if_false,cond_true,cond_false,Nat.zero_add,Nat.add_zero,up_succ,nbeq,decide_true,Nat.reduceAdd,Bool.not_true,eqK,kindNo,leaveA,resultA,resultsA,Option.map_some,beq_self_eq_true,ga,gb,len_slV,eqS_dec,eqI_dec,h1,h2,h3,kf1]
        generalize hit : iterA (execA K1 (callN K1 49) c13_l0) 100000 _ = o
        obtain ⟨fr1,j,t1,ho,hj,g2,g3,hab⟩ := same13_l0' T U sm h2 hit (by simp +decide only [Tr.get_put,if_true,if_false]) (by simp +decide only [Tr.get_put,if_true,if_false])
          ⟨by simp +decide only [Tr.get_put,h1,if_true,if_false],by simp +decide only [Tr.get_put,if_true,if_false]⟩ (by simp +decide only [Tr.get_put,if_true,if_false])
        rcases ho with ⟨rfl,e1⟩ | ⟨rfl,g4,e1⟩
        · simp +decide only [cond_true,decide_true]
          generalize hit2 : iterA (execA K1 (callN K1 49) c13_l2) 100000 _ = o
          obtain ⟨fr2,j2,t2,ho,hj2,g2',g3',hab2⟩ := same13_l2' T U sm h3 hit2 hj (by simp +decide only [Tr.get_put,g2,if_false]) (by simp +decide only [Tr.get_put,g3,if_false]) hab (by simp +decide only [Tr.get_put,if_true])
          rcases ho with ⟨rfl,e2⟩ | ⟨rfl,g4',e2⟩
          · simp +decide only [Tr.get_put,if_true,cond_true,decide_true,Bool.and_true,ret_iff,dfrsA,sameT,h1,e1,e2]
          · simp +decide only [decide_true,Bool.and_false,ret_iff,dfrsA,g4',sameT,h1,e1,e2]
        · simp +decide only [decide_true,Bool.and_false,Bool.false_and,ret_iff,dfrsA,g4,sameT,h1,e1]
      · have hab := all2_len (p := sameGate) h3
        simp +decide only [execA,opsA,wantedA,evalAll,evalA,oneA,st_mov,st_box,st_load,st_bin,st_fieldAddr,st_pick,st_len,ld_ptr,H.cellsAt,H.newB,partA,tk_s,tk_0,tk_c,cl_agg,binAV,eqAV,St.put,Tr.get_put,if_true,if_false,cond_true,cond_false,Nat.zero_add,Nat.add_zero,up_succ,nbeq,decide_true,decide_false,Nat.reduceAdd,Bool.and_false,Bool.not_true,Bool.not_false,eqK,kindNo,ret_iff,leaveA,dfrsA,resultA,resultsA,Option.map_some,beq_self_eq_true,ga,gb,len_slV,eqS_dec,eqI_dec,Int.ofNat.injEq,h1,h2,h3,sameT,hab]
    · have hab := all2_len (p := samePad) h2
      simp +decide only [execA,opsA,wantedA,evalAll,evalA,oneA,st_mov,st_box,st_load,st_bin,st_fieldAddr,st_pick,st_len,ld_ptr,H.cellsAt,H.newB,partA,tk_s,tk_0,tk_c,cl_agg,binAV,eqAV,St.put,Tr.get_put,if_true,if_false,cond_true,cond_false,Nat.zero_add,Nat.add_zero,up_succ,nbeq,decide_true,decide_false,Nat.reduceAdd,Bool.and_false,Bool.false_and,Bool.not_true,Bool.not_false,eqK,kindNo,ret_iff,leaveA,dfrsA,resultA,resultsA,Option.map_some,beq_self_eq_true,beq_f,ga,gb,len_slV,eqS_dec,eqI_dec,Int.ofNat.injEq,h1,h2,sameT,hab]
  · simp +decide only [execA,opsA,wantedA,evalAll,evalA,oneA,st_mov,st_box,st_load,st_bin,st_fieldAddr,st_pick,ld_ptr,H.cellsAt,H.newB,partA,tk_0,tk_c,cl_agg,binAV,eqAV,St.put,Tr.get_put,if_true,if_false,cond_true,Nat.zero_add,Nat.add_zero,up_succ,decide_false,Nat.reduceAdd,Bool.false_and,Bool.not_true,Bool.not_false,ret_iff,leaveA,dfrsA,resultA,resultsA,Option.map_some,beq_f,ga,gb,eqS_dec,h1,sameT]
theorem same13_sum (T U : TypD) (sm : Small T) (v w : AV) {h : H} (hv : deep 8 h v = .agg (tyC T)) (hw : deep 8 h w = .agg (tyC U)) : K2.sums t13 [v,w] h = some (.bool (sameT T U)) := by
  obtain ⟨x,h1,hc,hx⟩ := same13 T U sm
  rw [hx] at hc
  have e : [v,w].map (deep 8 h) = [.agg (tyC T),.agg (tyC U)] := by simp only [List.map_cons,List.map_nil,hv,hw]
  refine over_dp rfl rfl (by rw [e]; exact hc) (by rw [e]; simp only [frzs,frz,frz_ty,Bool.and_self]) rfl
end Go.Abs.Sym
end
section
namespace Go.Abs.Sym
open Go.Abs.T
open Go.Proofs
theorem up_ne {p : Pth} {i j : Nat} (h : i ≠ j) : (up p i = up p j) = False := by rw [up_inj]; exact eq_false h
theorem Pth.beq_rfl (p : Pth) : Pth.beq p p = true := Pth.beq_iff.2 rfl
mutual
theorem beq_rfl : ∀ v : AV,AV.beq v v = true
  | .bool b => by simp [AV.beq]
  | .int k n => by simp only [AV.beq,eqI_dec,decide_true,Bool.and_true]; exact eqK_iff.2 rfl
  | .str s => by simp only [AV.beq,eqS_dec,decide_true]
  | .nilp => by simp [AV.beq]
  | .ptr a b => by simp [AV.beq,Pth.beq_rfl]
  | .rptr cs => by simp only [AV.beq]; exact beqs_rfl cs
  | .nils => by simp [AV.beq]
  | .slc a b c d none => by simp [AV.beq,Pth.beq_rfl]
  | .slc a b c d (some x) => by simp [AV.beq,Pth.beq_rfl]
  | .rslc n cs => by simp only [AV.beq,nbeq,decide_true,Bool.true_and]; exact beqs_rfl cs
  | .eslc => by simp [AV.beq]
  | .nilm => by simp [AV.beq]
  | .mapv a => by simp only [AV.beq]; exact Pth.beq_rfl a
  | .nilf => by simp [AV.beq]
  | .fn f x y => by simp only [AV.beq,Pth.beq_rfl,beqs_rfl,Bool.and_self]
  | .yield a => by simp only [AV.beq]; exact Pth.beq_rfl a
  | .nili => by simp [AV.beq]
  | .iface t v => by simp only [AV.beq,nbeq,decide_true,Bool.true_and]; exact beq_rfl v
  | .agg cs => by simp only [AV.beq]; exact beqs_rfl cs
  | .tup cs => by simp only [AV.beq]; exact beqs_rfl cs
theorem beqs_rfl : ∀ vs : List AV,AV.beqs vs vs = true
  | [] => by simp [AV.beqs]
  | v :: vs => by simp only [AV.beqs,beq_rfl v,beqs_rfl vs,Bool.and_self]
end
def SlT {α : Type} (f : α → List AV) (sz : Nat) (Lt : Nat → Nat → Prop) (v : AV) : Prop :=
  (∃ s : Sl α,s.l.length < 90000 ∧ v = slV f s) ∨ ∃ i n c,v = .slc (up .e i) 0 n sz c ∧ n < 90000 ∧ Lt i n
def Typed {α : Type} (f : α → List AV) (Lt : Nat → Nat → Prop) (t : Tr AB) : Prop :=
  ∀ i n,Lt i n → ∃ (ls : List α) (sp : Bool),n ≤ ls.length ∧ t.get (up .e i) = some (.cells (ls.flatMap f) sp)
theorem Typed.put {α : Type} {f : α → List AV} {Lt : Nat → Nat → Prop} {t : Tr AB} (h : Typed f Lt t) {j : Nat} (hj : ∀ i n,Lt i n → i ≠ j) (x : AB) : Typed f Lt (t.put (up .e j) x) := by
  intro i n hi
  obtain ⟨ls,sp,h1,h2⟩ := h i n hi
  refine ⟨ls,sp,h1,?_⟩
  rw [Tr.get_put,if_neg (fun e => hj i n hi (by rw [up_inj] at e; exact e))]
  exact h2
theorem Typed.del {α : Type} {f : α → List AV} {Lt : Nat → Nat → Prop} {t : Tr AB} (h : Typed f Lt t) {j : Nat} (hj : ∀ i n,Lt i n → i ≠ j) : Typed f Lt (t.del (up .e j)) := by
  intro i n hi
  obtain ⟨ls,sp,h1,h2⟩ := h i n hi
  refine ⟨ls,sp,h1,?_⟩
  rw [Tr.get_del,if_neg (fun e => hj i n hi (by rw [up_inj] at e; exact e))]
  exact h2
theorem Typed.add {α : Type} {f : α → List AV} {Lt : Nat → Nat → Prop} {t : Tr AB} (h : Typed f Lt t) {j n : Nat} {ls : List α} {sp : Bool} (hn : n ≤ ls.length) (hj : t.get (up .e j) = some (.cells (ls.flatMap f) sp)) : Typed f (fun i m => Lt i m ∨ i = j ∧ m = n) t := by
  rintro i m (hi | ⟨rfl,rfl⟩)
  · exact h i m hi
  · exact ⟨ls,sp,hn,hj⟩
theorem SlT.mono {α : Type} {f : α → List AV} {sz : Nat} {Lt Lt' : Nat → Nat → Prop} {v : AV} (h : SlT f sz Lt v) (hl : ∀ i n,Lt i n → Lt' i n) : SlT f sz Lt' v := by
  rcases h with h | ⟨i,n,c,h1,h2,h3⟩
  · exact .inl h
  · exact .inr ⟨i,n,c,h1,h2,hl i n h3⟩
theorem SlT.one {α : Type} {f : α → List AV} {sz : Nat} {Lt : Nat → Nat → Prop} {v : AV} (h : SlT f sz Lt v) : v.one = true := by
  rcases h with ⟨s,_,rfl⟩ | ⟨i,n,c,rfl,_⟩
  · exact on_slV f s
  · rfl
theorem take_flat {α : Type} {f : α → List AV} {sz : Nat} (hf : ∀ a,(f a).length = sz) : ∀ (l : List α) (n : Nat),(l.flatMap f).take (n * sz) = (l.take n).flatMap f
  | l,0 => by rw [Nat.zero_mul]; rfl
  | [],n + 1 => by simp only [List.flatMap_nil,List.take_nil]
  | a :: l,n + 1 => by
    rw [List.flatMap_cons,Nat.succ_mul,Nat.add_comm,List.take_add,List.take_left' (hf a),List.drop_left' (hf a),take_flat hf l n]
    rfl
theorem slV_rslc {α : Type} (f : α → List AV) (l : List α) : slV f ⟨1,l⟩ = .rslc l.length (l.flatMap f) := by
  cases l <;> rfl
theorem SlT.deep {α : Type} {f : α → List AV} {sz : Nat} {Lt : Nat → Nat → Prop} {v : AV} {nx : Pth} {t : Tr AB} (hf : ∀ a,(f a).length = sz) (hz : ∀ a,frzs (f a) = true) (hT : Typed f Lt t) (h : SlT f sz Lt v) (d : Nat) :
    ∃ s : Sl α,s.l.length < 90000 ∧ deep (d + 1) ⟨nx,t,.lf⟩ v = slV f s := by
  rcases h with ⟨s,h1,rfl⟩ | ⟨i,n,c,rfl,h1,h2⟩
  · exact ⟨s,h1,deep_frz _ _ _ (frz_slV hz s)⟩
  · obtain ⟨ls,sp,h3,h4⟩ := hT i n h2
    have hlen : (ls.take n).length = n := by rw [List.length_take]; omega
    refine ⟨⟨1,ls.take n⟩,by rw [hlen]; exact h1,?_⟩
    have htk : takeD (ls.flatMap f) 0 (n * sz) = some ((ls.take n).flatMap f) := by
      simp only [takeD,List.drop_zero]
      rw [take_flat hf,len_flat hf,hlen,nbeq,decide_eq_true rfl]
      rfl
    simp only [Abs.deep,H.cellsAt,h4,htk]
    rw [slV_rslc,hlen,deeps_frz _ _ _ (frzs_flat hz _)]
def inC (a : Int) : List AV := [.int .i64 a]
theorem len_in (a : Int) : (inC a).length = 1 := rfl
theorem frz_in (a : Int) : frzs (inC a) = true := rfl
def DrawAt (t : Tr AB) (d : Pth) (L : Sl Int) : Prop := ∃ pos,pos ≤ L.l.length ∧ t.get d = some (.cells [slV inC L,.int .i64 (.ofNat pos)] false)
theorem next_call {X : Ctx} {m : Nat} {d : Pth} {n : Nat} {L : Sl Int} {q : Pth} {j : Nat} {t : Tr AB} {R : CRes} (hs : ∀ xs h,X.sums t57 xs h = none) (hF : X.funcs.get t57 = some c57)
    (hmod : ∀ a : Int,∃ x : Nat,x < n ∧ ∀ h,X.sums t24 [.int .i64 a,.int .i64 (.ofNat n)] h = some (.int .i64 (.ofNat x))) (h0n : 0 < n) (hL : L.l.length < 9223372036854775808)
    (hR : callN X (m + 2) (.fn t57 [] []) [.ptr d 0,.int .i64 (.ofNat n)] ⟨up q j,t,.lf⟩ = R) (hd : DrawAt t d L) :
    ∃ x pos j',R = .ret (.int .i64 (.ofNat x)) ⟨up q j',t.put d (.cells [slV inC L,.int .i64 (.ofNat pos)] false),.lf⟩ ∧ x < n ∧ j ≤ j' ∧ pos ≤ L.l.length := by
  obtain ⟨pos,hpos,hd⟩ := hd
  rw [← hR,call_fn (F := c57) (hs _ _) hF]
  by_cases hb : L.l.length ≤ pos
  · refine ⟨0,pos,j + 10,?_,h0n,by omega,hpos⟩
    have hb' : leI (.ofNat L.l.length) (.ofNat pos) = true := Nat.ble_eq_true_of_le hb
    rw [put_self hd]
    simp +decide only [c57,execA,opsA,wantedA,evalAll,evalA,oneA,dregA,dopsA,dstep,isMaker,withP_nil,takesP_nil,leavesP_nil,rd_mov,rd_load,rd_nilp,rd_bin,rd_fieldp,rd_len,st_mov,st_load,st_bin,st_fieldAddr,st_nilCheck,st_len,ld_ptr,H.cellsAt,partA,tk_s,tk_0,tk_c,binAV,St.put,Tr.get_put,frameOf,Pth.succ,List.nil_append,List.append_nil,if_true,if_false,cond_true,cond_false,Nat.zero_add,Nat.add_zero,skip_up0,up_up,up_succ,List.length,seesHeap,quiet,nbeq,decide_true,Nat.reduceAdd,Bool.and_false,Bool.or_true,List.all,eqK,kindNo,leaveA,dfrsA,resultA,resultsA,Option.map_some,hd,hb',len_slV]
  · have hb' : leI (.ofNat L.l.length) (.ofNat pos) = false := by
      cases h : leI (.ofNat L.l.length) (.ofNat pos) with
      | false => rfl
      | true => exact absurd (Nat.le_of_ble_eq_true h) hb
    obtain ⟨a,ha⟩ : ∃ a,L.l[pos]? = some a := ⟨_,List.getElem?_eq_getElem (by omega)⟩
    have ia := at_slV (f := inC) (sz := 1) len_in (by decide) ha
    obtain ⟨x,hx,hm⟩ := hmod a
    have hcall : ∀ h,callN X (m + 1) (.fn t24 [] []) [.int .i64 a,.int .i64 (.ofNat n)] h = .ret (.int .i64 (.ofNat x)) h := fun h => call_sum (hm h)
    have hw := wr_add pos 1 (by omega)
    have hw' := wr_sub (pos + 1) 1 (by omega) (by omega)
    refine ⟨x,pos + 1,j + 24,?_,hx,by omega,by omega⟩
    simp +decide only [c57,execA,opsA,wantedA,evalAll,evalA,oneA,dregA,dopsA,dstep,isMaker,withP_nil,takesP_nil,leavesP_nil,rd_mov,rd_load,rd_nilp,rd_bin,rd_fieldp,rd_indexAddr,rd_len,st_mov,st_load,st_store,st_bin,st_call,st_fieldAddr,st_indexAddr,st_nilCheck,st_len,ld_ptr,ld_rn,H.cellsAt,partA,tk_s,tk_0,tk_c,storeA,setAt,ones,on_int,cl_int,binAV,St.put,Tr.get_put,frameOf,Pth.succ,List.nil_append,List.append_nil,List.cons_append,if_true,if_false,cond_true,cond_false,Nat.zero_add,Nat.add_zero,skip_up0,up_up,up_succ,List.length,seesHeap,quiet,nbeq,decide_true,Nat.reduceAdd,Bool.and_true,Bool.and_false,Bool.or_true,List.all,eqK,kindNo,leaveA,dfrsA,resultA,resultsA,Option.map_some,inC,hd,hb',len_slV,hw,hw',Nat.add_sub_cancel,ia,hcall]
def PadR (Et : Nat → Nat → Prop) (r : List AV) : Prop := ∃ nm kd ev rr x y dr,r = [.str nm,.int .i64 kd,ev,.int .i64 rr,.int .i64 x,.int .i64 y,.int .i64 dr] ∧ SlT edC 7 Et ev
theorem PadR.len {Et : Nat → Nat → Prop} {r : List AV} (h : PadR Et r) : r.length = 7 := by
  obtain ⟨nm,kd,ev,rr,x,y,dr,rfl,_⟩ := h
  rfl
theorem PadR.ones {Et : Nat → Nat → Prop} {r : List AV} (h : PadR Et r) : ones r = true := by
  obtain ⟨nm,kd,ev,rr,x,y,dr,rfl,h⟩ := h
  simp only [Abs.ones,h.one]
  rfl
theorem PadR.mono {Et Et' : Nat → Nat → Prop} {r : List AV} (h : PadR Et r) (hl : ∀ i n,Et i n → Et' i n) : PadR Et' r := by
  obtain ⟨nm,kd,ev,rr,x,y,dr,rfl,h⟩ := h
  exact ⟨nm,kd,ev,rr,x,y,dr,rfl,h.mono hl⟩
theorem PadR.deep {Et : Nat → Nat → Prop} {r : List AV} {nx : Pth} {t : Tr AB} (hT : Typed edC Et t) (h : PadR Et r) (d : Nat) : ∃ p : PadD,p.es.l.length < 90000 ∧ r.map (deep (d + 1) ⟨nx,t,.lf⟩) = padC p := by
  obtain ⟨nm,kd,ev,rr,x,y,dr,rfl,h⟩ := h
  obtain ⟨s,h1,h2⟩ := h.deep (nx := nx) len_ed frz_ed hT d
  refine ⟨⟨nm,kd,s,rr,x,y,dr⟩,h1,?_⟩
  simp only [List.map_cons,List.map_nil,h2]
  rfl
def GateR (Lt : Nat → Nat → Prop) (r : List AV) : Prop := ∃ kd lv,r = [.int .i64 kd,lv] ∧ SlT lgC 2 Lt lv
theorem GateR.len {Et : Nat → Nat → Prop} {r : List AV} (h : GateR Et r) : r.length = 2 := by
  obtain ⟨kd,lv,rfl,_⟩ := h
  rfl
theorem GateR.ones {Et : Nat → Nat → Prop} {r : List AV} (h : GateR Et r) : ones r = true := by
  obtain ⟨kd,lv,rfl,h⟩ := h
  simp only [Abs.ones,h.one]
  rfl
theorem GateR.mono {Et Et' : Nat → Nat → Prop} {r : List AV} (h : GateR Et r) (hl : ∀ i n,Et i n → Et' i n) : GateR Et' r := by
  obtain ⟨kd,lv,rfl,h⟩ := h
  exact ⟨kd,lv,rfl,h.mono hl⟩
theorem GateR.deep {Et : Nat → Nat → Prop} {r : List AV} {nx : Pth} {t : Tr AB} (hT : Typed lgC Et t) (h : GateR Et r) (d : Nat) : ∃ p : GateD,p.legs.l.length < 90000 ∧ r.map (deep (d + 1) ⟨nx,t,.lf⟩) = gateC p := by
  obtain ⟨kd,lv,rfl,h⟩ := h
  obtain ⟨s,h1,h2⟩ := h.deep (nx := nx) len_lg frz_lg hT d
  refine ⟨⟨kd,s⟩,h1,?_⟩
  simp only [List.map_cons,List.map_nil,h2]
  rfl
theorem rows_deep {α : Type} {f : α → List AV} {Rw : List AV → Prop} {B : α → Prop} {d : Nat} {h : H} (hr : ∀ r,Rw r → ∃ a,B a ∧ r.map (deep d h) = f a) : ∀ rs : List (List AV),(∀ r ∈ rs,Rw r) → ∃ l : List α,l.length = rs.length ∧ (∀ a ∈ l,B a) ∧ rs.flatten.map (deep d h) = l.flatMap f
  | [],_ => ⟨[],rfl,fun _ h => absurd h List.not_mem_nil,rfl⟩
  | r :: rs,hrs => by
    obtain ⟨a,h1,h2⟩ := hr r (hrs r List.mem_cons_self)
    obtain ⟨l,h3,h4,h5⟩ := rows_deep hr rs (fun x hx => hrs x (List.mem_cons_of_mem _ hx))
    refine ⟨a :: l,by simp only [List.length_cons,h3],fun b hb => ?_,?_⟩
    · rcases List.mem_cons.1 hb with rfl | hb
      · exact h1
      · exact h4 b hb
    · rw [List.flatten_cons,List.map_append,h2,h5,List.flatMap_cons]
theorem rows_len {Rw : List AV → Prop} {sz : Nat} (hr : ∀ r,Rw r → r.length = sz) : ∀ rs : List (List AV),(∀ r ∈ rs,Rw r) → rs.flatten.length = rs.length * sz
  | [],_ => by rw [List.flatten_nil,List.length_nil,List.length_nil,Nat.zero_mul]
  | r :: rs,h => by rw [List.flatten_cons,List.length_append,hr r (h r List.mem_cons_self),rows_len hr rs (fun x hx => h x (List.mem_cons_of_mem _ hx)),List.length_cons,Nat.succ_mul,Nat.add_comm]
end Go.Abs.Sym
end
section
namespace Go.Abs.Sym
open Go.Abs.T
open Go.Proofs
def Grow (sz : Nat) (t : Tr AB) (lo hi nb : Nat) (pv : AV) (rs : List (List AV)) : Prop :=
  (rs = [] ∧ pv = .nils ∧ nb = 0) ∨ (0 < rs.length ∧ pv = .slc (up .e nb) 0 rs.length sz none ∧ t.get (up .e nb) = some (.cells rs.flatten true) ∧ lo ≤ nb ∧ nb < hi)
theorem Grow.one {sz : Nat} {t : Tr AB} {lo hi nb : Nat} {pv : AV} {rs : List (List AV)} (h : Grow sz t lo hi nb pv rs) : pv.one = true := by
  rcases h with ⟨_,rfl,_⟩ | ⟨_,rfl,_⟩ <;> rfl
theorem Grow.cl {sz : Nat} {t : Tr AB} {lo hi nb : Nat} {pv : AV} {rs : List (List AV)} (h : Grow sz t lo hi nb pv rs) : pv.cells = [pv] := by
  rcases h with ⟨_,rfl,_⟩ | ⟨_,rfl,_⟩ <;> rfl
theorem Grow.ln {sz : Nat} {t : Tr AB} {lo hi nb : Nat} {pv : AV} {rs : List (List AV)} (h : Grow sz t lo hi nb pv rs) (H : H) : lenVal H .slc pv = some (.int .i64 (.ofNat rs.length)) := by
  rcases h with ⟨rfl,rfl,_⟩ | ⟨_,rfl,_⟩ <;> rfl
theorem Grow.keep {sz : Nat} {t t' : Tr AB} {lo hi hi' nb : Nat} {pv : AV} {rs : List (List AV)} (h : Grow sz t lo hi nb pv rs) (hh : hi ≤ hi') (ht : lo ≤ nb → nb < hi → t'.get (up .e nb) = t.get (up .e nb)) : Grow sz t' lo hi' nb pv rs := by
  rcases h with h | ⟨h1,h2,h3,h4,h5⟩
  · exact .inl h
  · exact .inr ⟨h1,h2,(ht h4 h5).trans h3,h4,by omega⟩
theorem ones_app : ∀ a b : List AV,ones (a ++ b) = (ones a && ones b)
  | [],b => by simp only [List.nil_append,ones,Bool.true_and]
  | v :: a,b => by simp only [List.cons_append,ones,ones_app a b,Bool.and_assoc]
theorem Grow.append {sz by_ : Nat} {t : Tr AB} {lo hi nb m x : Nat} {pv : AV} {rs : List (List AV)} {row : List AV} {sp : Bool} {A : Option (AV × H)} (h : Grow sz t lo hi nb pv rs)
    (hA : appendA ⟨up .e m,t,.lf⟩ sz by_ pv (.slc (up .e x) 0 1 sz (some 1)) = A) (hx : t.get (up .e x) = some (.cells row sp)) (hrow : row.length = sz) (hone : ones row = true) (hlen : ∀ r ∈ rs,r.length = sz) (hb : by_ ≤ 1000) (hn : rs.length < 1000000) (hm : lo ≤ m) :
    ∃ t2,A = some (.slc (up .e m) 0 (rs.length + 1) sz none,⟨up .e (m + 1),t2,.lf⟩) ∧ t2.get (up .e m) = some (.cells (rs ++ [row]).flatten true) ∧ (∀ i,i ≠ m → (lo ≤ nb → nb < hi → i ≠ nb) → t2.get (up .e i) = t.get (up .e i)) ∧ Grow sz t2 lo (m + 1) m (.slc (up .e m) 0 (rs.length + 1) sz none) (rs ++ [row]) := by
  have htk : takeD row 0 sz = some row := takeD_all hrow
  have hfl : rs.flatten.length = rs.length * sz := rows_len (Rw := fun r => r.length = sz) (fun _ h => h) rs hlen
  have hff : (rs ++ [row]).flatten = rs.flatten ++ row := by simp
  have hbig : ∀ n, n ≤ 1000001 → (Nat.ble bigBytes (n * by_) || Nat.ble bigBytes n) = false := by
    intro n hn
    have h1 : n * by_ ≤ 1000001 * 1000 := Nat.mul_le_mul hn hb
    have h2 : Nat.ble bigBytes (n * by_) = false := by
      rw [nble]; exact decide_eq_false (by have hB : 1000001000 < bigBytes := by decide
                                           omega)
    have h3 : Nat.ble bigBytes n = false := by
      rw [nble]; exact decide_eq_false (by have hB : 1000001000 < bigBytes := by decide
                                           omega)
    rw [h2,h3]; rfl
  have hf1 : firstA ⟨up .e m,t,.lf⟩ sz 1 (.slc (up .e x) 0 1 sz (some 1)) = some row := by
    simp only [firstA,nbeq,nble,decide_true,Nat.le_refl,Bool.and_self,cond_true,H.cellsAt,hx,Nat.one_mul,htk]
  have hgo : ∀ t2 : Tr AB,t2.get (up .e m) = some (.cells (rs ++ [row]).flatten true) → Grow sz t2 lo (m + 1) m (.slc (up .e m) 0 (rs.length + 1) sz none) (rs ++ [row]) := by
    intro t2 h2
    have hl : (rs ++ [row]).length = rs.length + 1 := by rw [List.length_append]; rfl
    exact .inr ⟨by omega,by rw [hl],h2,hm,by omega⟩
  rw [← hA]
  rcases h with ⟨rfl,rfl,rfl⟩ | ⟨h1,rfl,h2,h3,h4⟩
  · refine ⟨t.put (up .e m) (.cells row true),?_,?_,?_,?_⟩
    · have h10 : Nat.beq 1 0 = false := rfl
      simp only [appendA,lenA,hf1,h10,hbig 1 (by omega),cond_false,H.newB,up_succ,List.length_nil,Nat.zero_add]
    · rw [Tr.get_put,if_pos rfl]; simp
    · intro i hi _
      rw [Tr.get_put,if_neg (fun e => hi (by rw [up_inj] at e; exact e))]
    · exact hgo _ (by rw [Tr.get_put,if_pos rfl]; simp)
  · refine ⟨(t.del (up .e nb)).put (up .e m) (.cells (rs.flatten ++ row) true),?_,?_,?_,?_⟩
    · have hl2 : Nat.beq rs.flatten.length (rs.length * sz) = true := by rw [hfl,nbeq]; exact decide_eq_true rfl
      have hro : ((Tr.lf : Tr (List AV)).get (up .e nb)).isNone = true := rfl
      have hzz : Nat.beq sz sz = true := by rw [nbeq]; exact decide_eq_true rfl
      have h10 : Nat.beq 1 0 = false := rfl
      have h00 : Nat.beq 0 0 = true := rfl
      simp only [appendA,lenA,hf1,hzz,h10,h00,hbig (rs.length + 1) (by omega),cond_false,cond_true,h2,hone,hl2,hro,Bool.and_self,up_succ]
    · rw [Tr.get_put,if_pos rfl,hff]
    · intro i hi hi2
      rw [Tr.get_put,if_neg (fun e => hi (by rw [up_inj] at e; exact e)),Tr.get_del,if_neg (fun e => hi2 h3 h4 (by rw [up_inj] at e; exact e))]
    · exact hgo _ (by rw [Tr.get_put,if_pos rfl,hff])
structure MadeI (nm : List Nat) (L : Sl Int) (many m : Nat) (s : St) : Prop where
  ex : ∃ fr j t nb pv rs Et,s = ⟨fr,[],⟨up .e j,t,.lf⟩,.no,none,t22⟩ ∧ 3 ≤ j ∧ rs.length + m = many ∧
    fr.get t4 = some (.ptr (up .e 0) 0) ∧ fr.get t5 = some (.ptr (up .e 1) 0) ∧ fr.get t6 = some (.ptr (up .e 2) 0) ∧ fr.get t7 = some (.int .i64 (.ofNat many)) ∧ fr.get t8 = some (.int .i64 (.ofNat rs.length)) ∧
    t.get (up .e 0) = some (.cells [e0,.nils,.nils] false) ∧ DrawAt t (up .e 1) L ∧ t.get (up .e 2) = some (.cells [.str nm,pv,.nils] false) ∧
    Grow 7 t 3 j nb pv rs ∧ (∀ r ∈ rs,PadR Et r) ∧ Typed edC Et t ∧ (∀ i n,Et i n → 3 ≤ i ∧ i < j ∧ i ≠ nb)
end Go.Abs.Sym
end
section
namespace Go.Abs.Sym
open Go.Abs.T
open Go.Proofs
def MadeQ (nm : List Nat) (L : Sl Int) (many : Nat) (o : Out) : Prop := ∃ s,o = .exit 0 s ∧ MadeI nm L many 0 s
theorem mod2 (n : Nat) (h0 : 0 < n) (hn : n < 4000000000000000000) (a : Int) : ∃ x : Nat,x < n ∧ ∀ h,K2.sums t24 [.int .i64 a,.int .i64 (.ofNat n)] h = some (.int .i64 (.ofNat x)) := by
  obtain ⟨x,h1,h2⟩ := mod_sum a h0 hn
  exact ⟨x,h1,fun h => by rw [sums2_1 _ _ _ rfl rfl]; exact h2 h⟩
theorem next2 {n : Nat} (h0 : 0 < n) (hn : n < 4000000000000000000) {L : Sl Int} (hL : L.l.length < 9223372036854775808) {d : Pth} {q : Pth} {j : Nat} {t : Tr AB} {R : CRes}
    (hR : callN K2 49 (g t57) [.ptr d 0,.int .i64 (.ofNat n)] ⟨up q j,t,.lf⟩ = R) (hd : DrawAt t d L) :
    ∃ x pos j',R = .ret (.int .i64 (.ofNat x)) ⟨up q j',t.put d (.cells [slV inC L,.int .i64 (.ofNat pos)] false),.lf⟩ ∧ x < n ∧ j ≤ j' ∧ pos ≤ L.l.length :=
  next_call (X := K2) (m := 47) (fun _ _ => rfl) rfl (mod2 n h0 hn) h0 hL hR hd
theorem DrawAt.put {t : Tr AB} {i j : Nat} {L : Sl Int} (h : DrawAt t (up .e i) L) (hij : i ≠ j) (x : AB) : DrawAt (t.put (up .e j) x) (up .e i) L := by
  obtain ⟨pos,h1,h2⟩ := h
  exact ⟨pos,h1,by rw [Tr.get_put,if_neg (fun e => hij (by rw [up_inj] at e; exact e))]; exact h2⟩
theorem DrawAt.self {t : Tr AB} {d : Pth} {L : Sl Int} {pos : Nat} (h : pos ≤ L.l.length) : DrawAt (t.put d (.cells [slV inC L,.int .i64 (.ofNat pos)] false)) d L :=
  ⟨pos,h,by rw [Tr.get_put,if_pos rfl]⟩
theorem made_tail (nm : List Nat) (L : Sl Int) (hL : L.l.length < 9223372036854775808) {many m : Nat} (hm : many ≤ 6) {fr : Tr AV} {j : Nat} {t : Tr AB} {nb pb : Nat} {pv : AV} {rs : List (List AV)} {Et : Nat → Nat → Prop}
    {pn : List Nat} {kd rr x y : Int} {ev : AV} {o : Out} (hX : execA K2 (callN K2 49) c22_tl ⟨fr,[],⟨up .e j,t,.lf⟩,.no,none,t22⟩ = o)
    (_hj : 3 ≤ j) (hk : rs.length + (m + 1) = many) (g4 : fr.get t4 = some (.ptr (up .e 0) 0)) (g5 : fr.get t5 = some (.ptr (up .e 1) 0)) (g6 : fr.get t6 = some (.ptr (up .e 2) 0)) (g7 : fr.get t7 = some (.int .i64 (.ofNat many))) (g8 : fr.get t8 = some (.int .i64 (.ofNat rs.length)))
    (g9 : fr.get t9 = some (.ptr (up .e pb) 0)) (hpb : 3 ≤ pb) (hpj : pb < j)
    (a0 : t.get (up .e 0) = some (.cells [e0,.nils,.nils] false)) (ad : DrawAt t (up .e 1) L) (a2 : t.get (up .e 2) = some (.cells [.str nm,pv,.nils] false))
    (ap : t.get (up .e pb) = some (.cells [.str pn,.int .i64 kd,ev,.int .i64 rr,.int .i64 x,.int .i64 y,.int .i64 0] false)) (he : SlT edC 7 Et ev)
    (hg : Grow 7 t 3 j nb pv rs) (hnb : nb ≠ pb) (hr : ∀ r ∈ rs,PadR Et r) (hT : Typed edC Et t) (hE : ∀ i n,Et i n → 3 ≤ i ∧ i < j ∧ i ≠ nb ∧ i ≠ pb) :
    ∃ fr' j' t' nb' pv' row,o = .nrm ⟨fr',[],⟨up .e j',t',.lf⟩,.no,none,t22⟩ ∧ 3 ≤ j' ∧
      fr'.get t4 = some (.ptr (up .e 0) 0) ∧ fr'.get t5 = some (.ptr (up .e 1) 0) ∧ fr'.get t6 = some (.ptr (up .e 2) 0) ∧ fr'.get t7 = some (.int .i64 (.ofNat many)) ∧ fr'.get t8 = some (.int .i64 (.ofNat rs.length)) ∧
      t'.get (up .e 0) = some (.cells [e0,.nils,.nils] false) ∧ DrawAt t' (up .e 1) L ∧ t'.get (up .e 2) = some (.cells [.str nm,pv',.nils] false) ∧
      Grow 7 t' 3 j' nb' pv' (rs ++ [row]) ∧ PadR Et row ∧ Typed edC Et t' ∧ (∀ i n,Et i n → 3 ≤ i ∧ i < j' ∧ i ≠ nb') := by
  rw [← hX]
  simp +decide (disch := omega) only [c22_tl,execA,opsA,wantedA,evalAll,evalA,oneA,st_mov,st_call,st_buildSl,H.newB,St.put,Tr.get_put,if_true,g5]
  generalize hR1 : callN K2 49 (g t57) _ _ = R1
  obtain ⟨x1,p1,j1,rfl,hx1,hj1,hp1⟩ := next2 (n := 4) (by decide) (by decide) hL hR1 ad
  simp +decide (disch := omega) only [st_mov,st_bin,st_call,binAV,Tr.get_put,if_true,if_false,cond_true,nbeq,decide_true,eqK,kindNo,g5]
  generalize hR2 : callN K2 49 (g t57) _ _ = R2
  obtain ⟨x2,p2,j2,rfl,hx2,hj2,hp2⟩ := next2 (n := 2) (by decide) (by decide) hL hR2 (DrawAt.self hp1)
  have hev := he.one
  simp +decide (disch := omega) only [st_load,st_store,st_bin,st_fieldAddr,st_append,ld_ptr,H.cellsAt,partA,tk_s,tk_0,tk_c,storeA,setAt,fillS,ones,cl_agg,on_int,cl_int,binAV,Tr.get_put,if_true,if_false,cond_true,Nat.zero_add,Nat.zero_mul,up_succ,up_ne,Bool.and_self,List.length,nbeq,nble,decide_true,Nat.reduceAdd,eqK,kindNo,Option.map_some,g6,g9,a2,ap]
  generalize hA : appendA _ 7 80 _ _ = A
  have hE' : ∀ i n,Et i n → i ≠ 1 ∧ i ≠ pb ∧ i ≠ j2 := fun i n h => by
    have := hE i n h
    omega
  obtain ⟨t2,rfl,b1,b2,b3⟩ := Grow.append (hg.keep (hi' := j2 + 1) (by omega) (fun _ _ => by simp +decide (disch := omega) only [Tr.get_put,up_ne,if_false])) hA (sp := false)
    (by rw [Tr.get_put,if_pos rfl]) rfl (by simp only [ones,on_str,on_int,hev,Bool.and_self]) (fun r h => (hr r h).len) (by decide) (by omega) (by omega)
  have q0 := (b2 0 (by omega) (fun _ _ => by omega)).trans (by simp +decide (disch := omega) only [Tr.get_put,up_ne,if_false]; exact a0)
  have q1 : DrawAt t2 (up .e 1) L := by
    refine ⟨p2,hp2,(b2 1 (by omega) (fun _ _ => by omega)).trans ?_⟩
    simp +decide (disch := omega) only [Tr.get_put,up_ne,if_true,if_false]
  have q2 := (b2 2 (by omega) (fun _ _ => by omega)).trans (by simp +decide (disch := omega) only [Tr.get_put,up_ne,if_false]; exact a2)
  have qT : Typed edC Et t2 := by
    intro i n hi
    have h1 := hE i n hi
    obtain ⟨ls,sp,h2,h3⟩ := hT i n hi
    refine ⟨ls,sp,h2,(b2 i (by omega) (fun _ _ => by omega)).trans ?_⟩
    simp +decide (disch := omega) only [Tr.get_put,up_ne,if_false]
    exact h3
  simp +decide (disch := omega) only [st_store,st_fieldAddr,storeA,setAt,ones,on_slc,cl_slc,Tr.get_put,if_true,if_false,cond_true,Nat.zero_add,Bool.and_self,List.length,nbeq,decide_true,Option.map_some,g6,q2]
  refine ⟨_,_,_,_,_,_,rfl,?_,?_,?_,?_,?_,?_,?_,q1.put (by omega) _,by rw [Tr.get_put,if_pos rfl],b3.keep (Nat.le_refl _) (fun _ _ => ?_),⟨pn,kd,ev,rr,x,y,_,rfl,he⟩,qT.put (fun i n h => ?_) _,fun i n h => ?_⟩
  any_goals simp +decide (disch := omega) only [Tr.get_put,up_ne,g4,g5,g6,g7,g8,q0,if_false]
  · omega
  · have := hE i n h
    omega
  · have := hE i n h
    omega
theorem names2 {k : Nat} (hk : k < 6) (h : H) : callN K2 49 (g t58) [.int .i64 (.ofNat k)] h = .ret (.str (nmOf k)) h := call_sum (by rw [List.nil_append,List.append_nil,sums2_1 _ _ _ rfl rfl]; exact names_sum hk h)
theorem rect2 (a b c d : Int) (h : H) : callN K2 49 (g t59) [.agg [.int .i64 a,.int .i64 b,.int .i64 c,.int .i64 d]] h = .ret (.agg [.int .i64 2,slV edC (rectE a b c d),.int .i64 0]) h := call_sum (by rw [List.nil_append,List.append_nil,sums2_1 _ _ _ rfl rfl]; exact rect_sum a b c d h)
theorem disc2 (x y r : Int) (h : H) : callN K2 49 (g t25) [.agg [.int .i64 x,.int .i64 y],.int .i64 r] h = .ret (.agg [.int .i64 1,slV edC (discE x y),.int .i64 r]) h := call_sum (by rw [List.nil_append,List.append_nil,sums2_1 _ _ _ rfl rfl]; exact disc_sum x y r h)
theorem made_sw (nm : List Nat) (L : Sl Int) (hL : L.l.length < 9223372036854775808) {many x2 : Nat} (hx2 : x2 < 3) {fr : Tr AV} {j : Nat} {t : Tr AB} {nb pb xb : Nat} {pv : AV} {rs : List (List AV)} {Et : Nat → Nat → Prop}
    {pn : List Nat} {x y : Int} {o : Out} (hX : execA K2 (callN K2 49) c22_sw ⟨fr,[],⟨up .e j,t,.lf⟩,.no,none,t22⟩ = o)
    (hj : 3 ≤ j) (g4 : fr.get t4 = some (.ptr (up .e 0) 0)) (g5 : fr.get t5 = some (.ptr (up .e 1) 0)) (g6 : fr.get t6 = some (.ptr (up .e 2) 0)) (g7 : fr.get t7 = some (.int .i64 (.ofNat many))) (g8 : fr.get t8 = some (.int .i64 (.ofNat rs.length)))
    (g9 : fr.get t9 = some (.ptr (up .e pb) 0)) (g10 : fr.get t10 = some (.ptr (up .e xb) 0)) (g37 : fr.get t37 = some (.int .i64 (.ofNat x2))) (hpb : 3 ≤ pb) (hpx : pb < xb) (hxj : xb < j)
    (a0 : t.get (up .e 0) = some (.cells [e0,.nils,.nils] false)) (ad : DrawAt t (up .e 1) L) (a2 : t.get (up .e 2) = some (.cells [.str nm,pv,.nils] false))
    (ap : t.get (up .e pb) = some (.cells [.str pn,.int .i64 0,.nils,.int .i64 0,.int .i64 x,.int .i64 y,.int .i64 0] false)) (ax : t.get (up .e xb) = some (.cells [.int .i64 x,.int .i64 y] false))
    (hg : Grow 7 t 3 j nb pv rs) (hnb : nb ≠ pb) (hT : Typed edC Et t) (hE : ∀ i n,Et i n → 3 ≤ i ∧ i < j ∧ i ≠ nb ∧ i ≠ pb) :
    ∃ fr' j' t' kd ev rr Et',o = .nrm ⟨fr',[],⟨up .e j',t',.lf⟩,.no,none,t22⟩ ∧ j ≤ j' ∧
      fr'.get t4 = some (.ptr (up .e 0) 0) ∧ fr'.get t5 = some (.ptr (up .e 1) 0) ∧ fr'.get t6 = some (.ptr (up .e 2) 0) ∧ fr'.get t7 = some (.int .i64 (.ofNat many)) ∧ fr'.get t8 = some (.int .i64 (.ofNat rs.length)) ∧
      fr'.get t9 = some (.ptr (up .e pb) 0) ∧ t'.get (up .e 0) = some (.cells [e0,.nils,.nils] false) ∧ DrawAt t' (up .e 1) L ∧ t'.get (up .e 2) = some (.cells [.str nm,pv,.nils] false) ∧
      t'.get (up .e pb) = some (.cells [.str pn,.int .i64 kd,ev,.int .i64 rr,.int .i64 x,.int .i64 y,.int .i64 0] false) ∧ SlT edC 7 Et' ev ∧
      Grow 7 t' 3 j' nb pv rs ∧ Typed edC Et' t' ∧ (∀ i n,Et' i n → 3 ≤ i ∧ i < j' ∧ i ≠ nb ∧ i ≠ pb) ∧ (∀ i n,Et i n → Et' i n) := by
  have hnj : nb < j := by
    rcases hg with ⟨_,_,h⟩ | ⟨_,_,_,_,h⟩ <;> omega
  have hnb3 : ∀ t' : Tr AB,(3 ≤ nb → t'.get (up .e nb) = t.get (up .e nb)) → ∀ j',j ≤ j' → Grow 7 t' 3 j' nb pv rs := fun t' h j' hj' => hg.keep hj' (fun h1 _ => h h1)
  rw [← hX]
  have q00 : eqI (.ofNat 0) (.ofNat 0) = true := rfl
  have q10 : eqI (.ofNat 1) (.ofNat 0) = false := rfl
  have q11 : eqI (.ofNat 1) (.ofNat 1) = true := rfl
  have q20 : eqI (.ofNat 2) (.ofNat 0) = false := rfl
  have q21 : eqI (.ofNat 2) (.ofNat 1) = false := rfl
  have hx : x2 = 0 ∨ x2 = 1 ∨ x2 = 2 := by omega
  rcases hx with rfl | rfl | rfl
  · simp +decide (disch := omega) only [execA,opsA,wantedA,evalAll,evalA,oneA,st_mov,st_load,st_store,st_bin,st_call,st_fieldAddr,st_build,ld_ptr,H.cellsAt,partA,tk_s,tk_0,tk_c,storeA,setAt,fillA,ones,cl_agg,on_int,cl_int,on_slV,binAV,eqAV,St.put,Tr.get_put,if_true,if_false,cond_true,Nat.zero_add,Nat.add_zero,Bool.and_self,List.length,nbeq,nble,decide_true,Nat.reduceAdd,eqK,kindNo,Option.map_some,g9,g10,g37,ap,ax,rect2,c22_sw,q00]
    refine ⟨_,j,_,_,_,_,Et,rfl,Nat.le_refl _,?_,?_,?_,?_,?_,?_,?_,ad.put (by omega) _,?_,by rw [Tr.get_put,if_pos rfl],.inl ⟨_,by show (4 : Nat) < 90000; decide,rfl⟩,hnb3 _ (fun _ => ?_) _ (Nat.le_refl _),hT.put (fun i n h => ?_) _,hE,fun _ _ h => h⟩
    any_goals simp +decide (disch := omega) only [Tr.get_put,up_ne,g4,g5,g6,g7,g8,g9,a0,a2,if_false]
    have := hE i n h
    omega
  · simp +decide (disch := omega) only [execA,opsA,wantedA,evalAll,evalA,oneA,dregA,dopsA,dstep,isMaker,withP_nil,takesP_nil,leavesP_nil,rd_mov,rd_load,st_mov,st_load,st_bin,st_call,ld_ptr,H.cellsAt,partA,tk_0,tk_c,binAV,eqAV,St.put,Tr.get_put,if_true,if_false,cond_true,cond_false,Nat.zero_add,skip_up0,up_up,up_succ,beq_rfl,Bool.and_self,List.length,seesHeap,quiet,recheck,nbeq,nble,decide_true,Nat.reduceAdd,Bool.true_and,Bool.and_true,Bool.false_and,Bool.or_true,List.all,eqK,kindNo,Option.map_some,g5,g10,g37,ax,c22_sw,q10,q11]
    generalize hR : callN K2 49 (g t57) _ _ = R
    obtain ⟨x3,p3,j3,rfl,hx3,hj3,hp3⟩ := next2 (n := 3) (by decide) (by decide) hL hR ad
    simp +decide (disch := omega) only [withP_nil,takesP_nil,leavesP_nil,rd_load,rd_bin,rd_fieldp,st_store,st_call,ld_ptr,H.cellsAt,partA,tk_0,tk_c,storeA,setAt,ones,cl_agg,on_int,on_slV,binAV,Tr.get_put,if_true,if_false,cond_true,cond_false,Nat.zero_add,up_ne,beq_rfl,Bool.and_self,List.length,recheck,nbeq,nble,decide_true,decide_false,Nat.reduceAdd,Nat.reduceLeDiff,Bool.and_false,List.all,eqK,kindNo,Option.map_some,g9,ap,ax,disc2]
    refine ⟨_,j3,_,_,_,_,Et,rfl,by omega,?_,?_,?_,?_,?_,?_,?_,(DrawAt.self hp3).put (by omega) _,?_,by rw [Tr.get_put,if_pos rfl],.inl ⟨_,by show (1 : Nat) < 90000; decide,rfl⟩,hnb3 _ (fun _ => ?_) _ (by omega),(hT.put (fun i n h => ?_) _).put (fun i n h => ?_) _,fun i n h => ?_,fun _ _ h => h⟩
    any_goals simp +decide (disch := omega) only [Tr.get_put,up_ne,g4,g5,g6,g7,g8,g9,a0,a2,if_false]
    all_goals have := hE i n h
    all_goals omega
  · simp +decide (disch := omega) only [execA,opsA,wantedA,evalAll,evalA,oneA,st_mov,st_load,st_store,st_bin,st_fieldAddr,st_build,st_buildSl,ld_ptr,H.cellsAt,H.newB,partA,tk_s,tk_0,tk_c,storeA,setAt,fillA,fillS,ones,cl_agg,on_int,cl_int,on_slc,cl_slc,binAV,eqAV,St.put,Tr.get_put,if_true,if_false,cond_true,Nat.zero_add,Nat.add_zero,Nat.zero_mul,up_succ,up_ne,Bool.and_self,List.length,nbeq,nble,decide_true,Nat.reduceAdd,eqK,kindNo,Option.map_some,g9,g10,g37,ap,ax,c22_sw,q20,q21]
    have hT' : ∀ t' : Tr AB,(∀ i,i ≠ pb → i ≠ j → t'.get (up .e i) = t.get (up .e i)) → Typed edC Et t' := by
      intro t' h i n hi
      have h1 := hE i n hi
      obtain ⟨ls,sp,h2,h3⟩ := hT i n hi
      exact ⟨ls,sp,h2,(h i (by omega) (by omega)).trans h3⟩
    refine ⟨_,j + 1,_,_,_,_,fun i n => Et i n ∨ i = j ∧ n = 1,rfl,by omega,?_,?_,?_,?_,?_,?_,?_,(ad.put (by omega) _).put (by omega) _,?_,by rw [Tr.get_put,if_pos rfl],.inr ⟨j,1,_,rfl,by decide,.inr ⟨rfl,rfl⟩⟩,hnb3 _ (fun _ => ?_) _ (by omega),
      Typed.add (ls := [⟨1,wrapA .i64 (x - .ofNat 2),y,wrapA .i64 (x + .ofNat 2),y,0,0⟩]) (sp := false) (hT' _ (fun i h1 h2 => ?_)) (Nat.le_refl 1) ?_,fun i n h => ?_,fun _ _ h => .inl h⟩
    any_goals simp +decide (disch := omega) only [Tr.get_put,up_ne,g4,g5,g6,g7,g8,g9,a0,a2,if_true,if_false]
    · rfl
    · rcases h with h | ⟨rfl,rfl⟩
      · have := hE i n h
        omega
      · omega
end Go.Abs.Sym
end
