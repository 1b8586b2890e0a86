/- A part of the proof that LibFinds answers true at every input: AbsSym35, AbsSym36, AbsLp4, AbsSym37, AbsSym38, AbsSym39. -/
import Derived.Test.YthfmfbbfaiohcaaGreatDoorFinds33
import Derived.Test.YthfmfbbfaiohcaaGreatDoorFinds31
section
namespace Go.Abs.Sym
open Go.Abs.T
open Go.Proofs
theorem up_of (p : Pth) : p = up .e p.num := Pth.num_inj (by rw [up_num]; simp [Pth.num])
theorem kf4 : K4.fuel = 100000 := rfl
theorem find_at {α : Type} {p : α → Bool} : ∀ {l : List α} {x : α},l.find? p = some x → p x = true
  | a :: l,x,h => by
    simp only [List.find?_cons] at h
    cases ha : p a with
    | true => rw [ha] at h; cases h; exact ha
    | false => rw [ha] at h; exact find_at h
def kn : AV → Nat
  | .nils => 0
  | _ => 1
def zeroT : TypD := ⟨[],⟨0,[]⟩,⟨0,[]⟩⟩
def CopyT (T U : TypD) : Prop := U.nm = T.nm ∧ Cps PadK T.pads.l U.pads.l ∧ Cps GateK T.gates.l U.gates.l
theorem View_live {id : Pth} {tl : List TypD} {n : Nat} {c : Option Nat} {h : H} {sp : Bool} (hn : tl.length = n) (hid : id.num < h.next.num) (hg : h.t.get id = some (.cells (tl.flatMap tyC) sp)) : View h 3 (.slc id 0 n 3 c) (tl.map tyC) := by
  refine ⟨by rw [len_map,hn]; rfl,fun h' he k e hk => ?_⟩
  rw [List.getElem?_map,Option.map_eq_some_iff] at hk
  obtain ⟨a,ha,rfl⟩ := hk
  have hkn := (List.getElem?_eq_some_iff.1 ha).1
  refine ⟨.ptr id (k * 3),by rw [ia_slc (by omega),Nat.zero_add],?_⟩
  have htk := take_row (rs := tl.map tyC) (sz := 3) (o := 0) (n := 3) (p := k) (row := tyC a) (l := tyC a) (fun r hr => by
    obtain ⟨x,_,rfl⟩ := List.mem_map.1 hr
    rfl) (by rw [List.getElem?_map,ha]; rfl) (by decide) rfl
  have hc : h'.cellsAt id = some (tl.flatMap tyC) := by
    simp only [H.cellsAt,(he.t id hid).trans hg]
  simp only [loadA,hc,partA]
  rw [show tl.flatMap tyC = (tl.map tyC).flatten from rfl,show k * 3 = k * 3 + 0 from rfl,htk]
  rfl
set_option maxHeartbeats 1000000 in
theorem get10 (tl : List TypD) (hl : tl.length = 3) (sm : ∀ T ∈ tl,Small T) (nm : List Nat) {j b : Nat} {t : Tr AB} (hb : b < j) (hblk : t.get (up .e b) = some (.cells (tl.flatMap tyC) false)) :
    Ret (callN K4 59 (g t10) [.slc (up .e b) 0 3 3 (some 3),.str nm] ⟨up .e j,t,.lf⟩) (fun r h' => ∃ j' t' v T',h' = ⟨up .e j',t',.lf⟩ ∧ j ≤ j' ∧ (∀ i,i < j → t'.get (up .e i) = t.get (up .e i)) ∧ LiveT t' j j' v T' ∧
      ((r = .tup [v,.bool false] ∧ tl.find? (fun T => eqS T.nm nm) = none ∧ T' = zeroT) ∨ (r = .tup [v,.bool true] ∧ ∃ T,tl.find? (fun T => eqS T.nm nm) = some T ∧ CopyT T T'))) := by
  have hs : ∀ xs h,K4.sums t10 xs h = none := fun _ _ => rfl
  have hF : K4.funcs.get t10 = some c10 := rfl
  refine enter2 (hs _ _) hF fun fr ga gb => ?_
  rw [c10_eq]
  have z0 := z_ne (i := b) (j := j) (by omega)
  have y0 := z_ne' (i := b) (j := j) (by omega)
  have hk1 : ltI (.negSucc 0) (.ofNat 0) = true := rfl
  have hk2 : ∀ k,ltI (.ofNat k) (.ofNat 0) = false := fun _ => rfl
  simp +decide only [execA,opsA,wantedA,evalAll,evalA,oneA,st_mov,st_alloc,st_box,st_call,st_mkFn,st_build,H.newB,fillA,cl_str,St.put,Tr.get_put,if_true,if_false,up_succ,List.drop,List.take,nbeq,Nat.reduceAdd,leaveA,resultA,resultsA,Option.map_some,Nat.add_assoc,ga,gb]
  generalize hR : callN K4 58 (g t30) _ _ = R
  have hgb : ((t.put (up .e j) (.cells [.str nm] false)).put (up .e (j + 1)) (.cells [e0,.nils,.nils] false)).get (up .e b) = some (.cells (tl.flatMap tyC) false) := by
    simp +decide (disch := omega) only [Tr.get_put,up_ne,if_false]
    exact hblk
  have hgn : ((t.put (up .e j) (.cells [.str nm] false)).put (up .e (j + 1)) (.cells [e0,.nils,.nils] false)).get (up .e j) = some (.cells [.str nm] false) := by
    simp +decide (disch := omega) only [Tr.get_put,up_ne,if_true,if_false]
  have hv := View_live (id := up .e b) (h := ⟨up .e (j + 2),(t.put (up .e j) (.cells [.str nm] false)).put (up .e (j + 1)) (.cells [e0,.nils,.nils] false),.lf⟩) (c := some 3) hl (by show (up .e b).num < (up .e (j + 2)).num; rw [up_num,up_num]; omega) hgb
  obtain ⟨r,t1,rfl,hold,hr⟩ := idx_nm' (f := tyC) (q := fun T => eqS T.nm nm) (fun _ _ => rfl) rfl (fun _ _ => rfl) rfl rfl hv (by omega) (fun _ => ⟨_,_,rfl⟩) (fun _ => rfl) (by rw [up_num,up_num]; omega) hgn hR
  clear hR hv
  obtain ⟨j1,rfl⟩ : ∃ j1,r = up .e j1 := ⟨_,up_of r⟩
  rw [up_num,up_num] at hr
  have hr : j + 2 ≤ j1 := by omega
  have told : ∀ i,i < j → t1.get (up .e i) = t.get (up .e i) := fun i hi => by
    rw [hold (up .e i) (by rw [up_num,up_num]; omega)]
    simp +decide (disch := omega) only [Tr.get_put,up_ne,if_false]
  have tn := (hold (up .e j) (by rw [up_num,up_num]; omega)).trans hgn
  have tr : t1.get (up .e (j + 1)) = some (.cells [e0,.nils,.nils] false) := by
    rw [hold (up .e (j + 1)) (by rw [up_num,up_num]; omega),Tr.get_put,if_pos rfl]
  have tb := (told b hb).trans hblk
  clear hold hgb hgn
  rcases plc_find (fun T : TypD => eqS T.nm nm) tl 0 with ⟨h1,h2⟩ | ⟨k,T,h1,h2,h3⟩
  · rw [h1]
    simp +decide only [st_mov,st_store,st_bin,ld_ptr,H.cellsAt,partA,tk_0,tk_c,storeA,setAt,ones,cl_agg,on_str,on_nils,binAV,Tr.get_put,if_true,if_false,cond_true,Nat.zero_add,Nat.add_zero,up_up,List.length,nbeq,decide_true,Nat.reduceAdd,eqK,kindNo,ret_iff,dfrsA,Option.map_some,Bool.and_self,hk1,tr]
    refine ⟨j1,_,_,zeroT,rfl,by omega,fun i hi => ?_,⟨.nils,.nils,rfl,.inl ⟨rfl,rfl⟩,.inl ⟨rfl,rfl⟩⟩,.inl ⟨rfl,h2,rfl⟩⟩
    rw [Tr.get_put,if_neg (fun e => by rw [up_inj] at e; omega)]
    exact told i hi
  · rw [h1,Nat.zero_add]
    have hk := (List.getElem?_eq_some_iff.1 h2).1
    have smT := sm T (List.mem_of_getElem? h2)
    have hia := ia_slc (id := up .e b) (n := 3) (sz := 3) (p := k) (c := some 3) (by omega)
    rw [Nat.zero_add] at hia
    have hlr : ∀ r ∈ tl.map tyC,r.length = 3 := fun r hr => by
      obtain ⟨x,_,rfl⟩ := List.mem_map.1 hr
      rfl
    have hgr : (tl.map tyC)[k]? = some (tyC T) := by rw [List.getElem?_map,h2]; rfl
    have htk1 : takeD (tl.flatMap tyC) (k * 3 + 1) 1 = some [slV padC T.pads] := take_row (sz := 3) hlr hgr (by decide) rfl
    have htk2 : takeD (tl.flatMap tyC) (k * 3 + 2) 1 = some [slV gateC T.gates] := take_row (sz := 3) hlr hgr (by decide) rfl
    have w0 := z_ne (i := b) (j := j1) (by omega)
    have w1 := z_ne (i := j) (j := j1) (by omega)
    have w2 := z_ne (i := j + 1) (j := j1) (by omega)
    have hpl := smT.pads
    have hgl := smT.gates
    simp +decide only [st_mov,st_load,st_store,st_bin,st_fieldAddr,st_indexAddr,st_len,ld_ptr,H.cellsAt,partA,tk_0,tk_c,storeA,setAt,fillA,ones,cl_agg,on_str,cl_str,on_nils,binAV,Tr.get_put,if_true,if_false,cond_true,Nat.zero_add,Nat.add_zero,up_up,up_succ,up_inj,List.length,nbeq,nble,decide_true,Nat.reduceAdd,eqK,kindNo,Option.map_some,Bool.and_self,ga,hk2,tn,w0,tb,hia,htk1,len_slV,kf4]
    generalize hit : iterA (execA K4 (callN K4 58) c10_l0) 100000 _ = o
    have ho : ∃ s,o = .exit 0 s ∧ GetI T nm j j1 (j + 1) (.slc (up .e b) 0 3 3 (some 3)) (.int .i64 (.ofNat k)) t1 0 s := by
      rw [← hit]
      refine iter_rule (GetI T nm j j1 (j + 1) (.slc (up .e b) 0 3 3 (some 3)) (.int .i64 (.ofNat k)) t1) (fun o => ∃ s,o = .exit 0 s ∧ GetI T nm j j1 (j + 1) (.slc (up .e b) 0 3 3 (some 3)) (.int .i64 (.ofNat k)) t1 0 s) (fun m s h => get_round T smT nm j j1 (j + 1) _ _ t1 m s h) 100000 T.pads.l.length _ ?_ (by omega)
      refine ⟨_,j1 + 1,_,0,.nils,[],rfl,by omega,by simp,.nil,?_,?_,?_,?_,?_,?_,?_,(Tr.get_put _ _ _ _).trans (if_pos rfl),.inl ⟨rfl,rfl,rfl⟩,fun i hi => ?_⟩
      all_goals simp +decide (disch := omega) only [Tr.get_put,up_ne,ga,if_true,if_false,List.length_nil]
    obtain ⟨s,rfl,fr2,j2,t2,nb,pv,ps,rfl,q1,q2,q3,f0,f6,f4,f7,f24,f25,f26,ab,hg,hold⟩ := ho
    clear hit
    have hb2 := (hold b (by omega)).trans tb
    have hn2 := hg.lt
    simp +decide only [st_mov,st_load,st_fieldAddr,st_indexAddr,st_len,ld_ptr,H.cellsAt,partA,Tr.get_put,if_true,if_false,cond_true,decide_true,f0,f6,hb2,hia,htk2,len_slV]
    generalize hit : iterA (execA K4 (callN K4 58) c10_l1) 100000 _ = o
    have ho : ∃ s,o = .exit 2 s ∧ GetJ T nm j1 (j + 1) pv ps nb t1 0 s := by
      rw [← hit]
      refine iter_rule (GetJ T nm j1 (j + 1) pv ps nb t1) (fun o => ∃ s,o = .exit 2 s ∧ GetJ T nm j1 (j + 1) pv ps nb t1 0 s) (fun m s h => get_round2 T smT nm j1 (j + 1) pv ps nb t1 m s h) 100000 T.gates.l.length _ ?_ (by omega)
      refine ⟨_,j2,t2,0,.nils,[],rfl,q1,by simp,.nil,?_,?_,?_,?_,?_,ab,hg,.inl ⟨rfl,rfl,rfl⟩,by omega,hold⟩
      all_goals simp +decide only [Tr.get_put,f4,f7,if_true,if_false,List.length_nil]
    obtain ⟨s,rfl,fr3,j3,t3,gb,gv,gs,rfl,p1,p2,p3,k4,k7,k47,k48,k49,ab3,hp3,hg3,hne,hold3⟩ := ho
    clear hit
    have r3 := (hold3 (j + 1) (by omega)).trans tr
    have o1 := hp3.one
    have o2 := hg3.one
    simp +decide only [st_load,st_store,ld_ptr,H.cellsAt,partA,tk_0,tk_c,storeA,setAt,ones,cl_agg,on_str,Tr.get_put,if_true,if_false,cond_true,Nat.zero_add,List.length,nbeq,decide_true,Nat.reduceAdd,ret_iff,dfrsA,Option.map_some,Bool.and_self,k4,k7,ab3,r3,o1,o2]
    have hgn3 := hg3.lt
    have hpn3 := hp3.lt
    have hL : LiveT (t3.put (up .e (j + 1)) (.cells [.str nm,pv,gv] false)) j j3 (.agg [.str nm,pv,gv]) ⟨nm,⟨kn pv,ps⟩,⟨kn gv,gs⟩⟩ := by
      refine ⟨pv,gv,rfl,?_,?_⟩
      · rcases hp3 with ⟨h4,rfl,_⟩ | ⟨h4,rfl,h5,h6,h7⟩
        · have : ps = [] := List.map_eq_nil_iff.1 h4
          subst this
          exact .inl ⟨rfl,rfl⟩
        · refine .inr ⟨nb,by rw [len_map],by omega,by omega,rfl,?_⟩
          rw [Tr.get_put,if_neg (fun e => by rw [up_inj] at e; omega)]
          exact h5
      · rcases hg3 with ⟨h4,rfl,_⟩ | ⟨h4,rfl,h5,h6,h7⟩
        · have : gs = [] := List.map_eq_nil_iff.1 h4
          subst this
          exact .inl ⟨rfl,rfl⟩
        · refine .inr ⟨gb,by rw [len_map],by omega,by omega,rfl,?_⟩
          rw [Tr.get_put,if_neg (fun e => by rw [up_inj] at e; omega)]
          exact h5
    refine ⟨j3,_,_,_,rfl,by omega,fun i hi => ?_,hL,.inr ⟨rfl,T,h3,?_,?_,?_⟩⟩
    · rw [Tr.get_put,if_neg (fun e => by rw [up_inj] at e; omega)]
      exact (hold3 i (by omega)).trans (told i hi)
    · have := find_at h3
      rw [eqS_dec,decide_eq_true_eq] at this
      exact this.symm
    · rw [List.take_of_length_le (by omega)] at q3
      exact q3
    · rw [List.take_of_length_le (by omega)] at p3
      exact p3
end Go.Abs.Sym
end
section
namespace Go.Abs.Sym
open Go.Abs.T
open Go.Proofs
theorem find_step {α : Type} {p : α → Bool} {l : List α} {k : Nat} {x : α} (h : l[k]? = some x) : (l.drop k).find? p = if p x = true then some x else (l.drop (k + 1)).find? p := by
  obtain ⟨hk,rfl⟩ := List.getElem?_eq_some_iff.1 h
  rw [List.drop_eq_getElem_cons hk,List.find?_cons]
  cases p l[k] <;> rfl
def resT (o : Option TypD) : AV := match o with
  | none => .tup [.agg (tyC zeroT),.bool false]
  | some T => .tup [.agg (tyC T),.bool true]
theorem get11 (tl : List TypD) (hl : tl.length = 3) (nm : List Nat) {j b : Nat} {t : Tr AB} (hb : b < j) (hblk : t.get (up .e b) = some (.cells (tl.flatMap tyC) false)) :
    Ret (callN K4 59 (g t11) [.slc (up .e b) 0 3 3 (some 3),.str nm] ⟨up .e j,t,.lf⟩) (fun r h' => r = resT (tl.find? (fun T => eqS T.nm nm)) ∧ ∃ t',h' = ⟨up .e (j + 1),t',.lf⟩ ∧ (∀ i,i < j → t'.get (up .e i) = t.get (up .e i))) := by
  have hs : ∀ xs h,K4.sums t11 xs h = none := fun _ _ => rfl
  have hF : K4.funcs.get t11 = some c11 := rfl
  refine enter2 (hs _ _) hF fun fr ga gb => ?_
  rw [c11_eq]
  simp +decide only [execA,opsA,wantedA,evalAll,evalA,oneA,st_mov,st_alloc,st_build,H.newB,fillA,St.put,Tr.get_put,if_true,if_false,up_succ,nbeq,Option.map_some,kf4]
  generalize hit : iterA (execA K4 (callN K4 58) c11_l0) 100000 _ = o
  have hlr : ∀ r ∈ tl.map tyC,r.length = 3 := fun r hr => by
    obtain ⟨x,_,rfl⟩ := List.mem_map.1 hr
    rfl
  have ho : ∃ fr' t',(∀ i,i < j → t'.get (up .e i) = t.get (up .e i)) ∧ fr'.get t4 = some (.ptr (up .e j) 0) ∧ ((o = .exit 0 ⟨fr',[],⟨up .e (j + 1),t',.lf⟩,.no,none,t11⟩ ∧ tl.find? (fun T => eqS T.nm nm) = none ∧ t'.get (up .e j) = some (.cells [e0,.nils,.nils] false)) ∨
      (o = .ret ⟨fr',[],⟨up .e (j + 1),t',.lf⟩,.no,none,t11⟩ ∧ ∃ T,tl.find? (fun T => eqS T.nm nm) = some T ∧ fr'.get t5 = some (.bool true) ∧ t'.get (up .e j) = some (.cells (tyC T) false))) := by
    rw [← hit]
    refine iter_rule (fun m s => ∃ fr' k,s = ⟨fr',[],⟨up .e (j + 1),t.put (up .e j) (.cells [e0,.nils,.nils] false),.lf⟩,.no,none,t11⟩ ∧ k + m = 3 ∧ tl.find? (fun T => eqS T.nm nm) = (tl.drop k).find? (fun T => eqS T.nm nm) ∧ fr'.get t0 = some (.slc (up .e b) 0 3 3 (some 3)) ∧ fr'.get t1 = some (.str nm) ∧ fr'.get t4 = some (.ptr (up .e j) 0) ∧ fr'.get t6 = some (.int .i64 (.ofNat k)))
      (fun o => ∃ fr' t',(∀ i,i < j → t'.get (up .e i) = t.get (up .e i)) ∧ fr'.get t4 = some (.ptr (up .e j) 0) ∧ ((o = .exit 0 ⟨fr',[],⟨up .e (j + 1),t',.lf⟩,.no,none,t11⟩ ∧ tl.find? (fun T => eqS T.nm nm) = none ∧ t'.get (up .e j) = some (.cells [e0,.nils,.nils] false)) ∨
      (o = .ret ⟨fr',[],⟨up .e (j + 1),t',.lf⟩,.no,none,t11⟩ ∧ ∃ T,tl.find? (fun T => eqS T.nm nm) = some T ∧ fr'.get t5 = some (.bool true) ∧ t'.get (up .e j) = some (.cells (tyC T) false)))) ?_ 100000 3 _ ?_ (by omega)
    · rintro m s ⟨fr',k,rfl,hk,hfi,g0,g1,g4,g6⟩
      have hold : ∀ X : AB,∀ i,i < j → (t.put (up .e j) X).get (up .e i) = t.get (up .e i) := fun X i hi => by
        rw [Tr.get_put,if_neg (fun e => by rw [up_inj] at e; omega)]
      cases m with
      | zero =>
        have hkn : (k < 3) = False := eq_false (by omega)
        simp +decide only [c11_l0,execA,opsA,wantedA,evalAll,evalA,oneA,st_mov,st_bin,st_len,ln_slc,binAV,St.put,Tr.get_put,if_true,if_false,cond_true,nbeq,decide_true,decide_false,eqK,kindNo,g0,g6,ltI_dec,hkn,stp_e]
        refine ⟨_,_,hold _,?_,.inl ⟨rfl,?_,(Tr.get_put _ _ _ _).trans (if_pos rfl)⟩⟩
        · simp +decide only [Tr.get_put,g4,if_false]
        · rw [hfi,List.drop_of_length_le (by omega)]
          rfl
      | succ m =>
        have hkn : (k < 3) = True := eq_true (by omega)
        obtain ⟨x,hka⟩ : ∃ x,tl[k]? = some x := ⟨_,List.getElem?_eq_getElem (by omega)⟩
        have hia := ia_slc (id := up .e b) (n := 3) (sz := 3) (p := k) (c := some 3) (by omega)
        rw [Nat.zero_add] at hia
        have hgr : (tl.map tyC)[k]? = some (tyC x) := by rw [List.getElem?_map,hka]; rfl
        have htk0 : takeD (tl.flatMap tyC) (k * 3) 1 = some [.str x.nm] := take_row (sz := 3) (o := 0) hlr hgr (by decide) rfl
        have htk3 : takeD (tl.flatMap tyC) (k * 3) 3 = some (tyC x) := take_row (sz := 3) (o := 0) hlr hgr (by decide) rfl
        have hbb : (t.put (up .e j) (.cells [e0,.nils,.nils] false)).get (up .e b) = some (.cells (tl.flatMap tyC) false) := (hold _ b hb).trans hblk
        have hbj : (b = j) = False := eq_false (by omega)
        have hw := wr_add k 1 (by omega)
        rw [find_step hka] at hfi
        cases he : eqS x.nm nm with
        | true =>
          rw [he,if_pos rfl] at hfi
          simp only [tyC] at htk3
          simp +decide only [c11_l0,execA,opsA,wantedA,evalAll,evalA,oneA,st_mov,st_load,st_store,st_bin,st_fieldAddr,st_indexAddr,st_len,ld_ptr,H.cellsAt,partA,storeA,setAt,ones,cl_agg,on_str,on_slV,ln_slc,binAV,eqAV,St.put,Tr.get_put,if_true,if_false,cond_true,Nat.zero_add,Nat.add_zero,up_inj,List.length,nbeq,decide_true,Nat.reduceAdd,Bool.and_true,eqK,kindNo,Option.map_some,g0,g1,g4,g6,ltI_dec,hkn,hia,htk0,htk3,hbj,hblk,he,stp_r]
          refine ⟨_,_,fun i hi => ?_,?_,.inr ⟨rfl,x,hfi,?_,(Tr.get_put _ _ _ _).trans (if_pos rfl)⟩⟩
          · rw [Tr.get_put,if_neg (fun e => by rw [up_inj] at e; omega)]
            exact hold _ i hi
          all_goals simp +decide only [Tr.get_put,g4,if_true,if_false]
        | false =>
          rw [he] at hfi
          simp +decide only [c11_l0,execA,opsA,wantedA,evalAll,evalA,oneA,st_mov,st_load,st_bin,st_fieldAddr,st_indexAddr,st_len,ld_ptr,H.cellsAt,partA,ln_slc,binAV,eqAV,St.put,Tr.get_put,if_true,if_false,cond_true,Nat.add_zero,up_inj,nbeq,decide_true,eqK,kindNo,Option.map_some,g0,g1,g6,ltI_dec,hkn,hia,htk0,hbj,hblk,he,hw,stp_n]
          refine ⟨m,by omega,_,k + 1,rfl,by omega,hfi,?_,?_,?_,?_⟩
          all_goals simp +decide only [Tr.get_put,g0,g1,g4,if_true,if_false]
    · refine ⟨_,0,rfl,rfl,rfl,?_,?_,?_,?_⟩ <;> simp +decide only [Tr.get_put,ga,gb,if_true,if_false]
  obtain ⟨fr',t',hold,g4,⟨rfl,h1,h2⟩ | ⟨rfl,T,h1,h2,h3⟩⟩ := ho
  · simp +decide only [st_store,ld_ptr,H.cellsAt,partA,tk_0,tk_c,storeA,setAt,ones,cl_agg,on_str,on_nils,Tr.get_put,if_true,if_false,cond_true,Nat.zero_add,Bool.and_self,List.length,nbeq,decide_true,Nat.reduceAdd,ret_iff,leaveA,dfrsA,resultA,resultsA,Option.map_some,g4,h2]
    refine ⟨by rw [h1]; rfl,_,rfl,fun i hi => ?_⟩
    rw [Tr.get_put,if_neg (fun e => by rw [up_inj] at e; omega)]
    exact hold i hi
  · simp only [tyC] at h3
    simp +decide only [ld_ptr,H.cellsAt,partA,tk_0,tk_c,ret_iff,leaveA,dfrsA,resultA,resultsA,Option.map_some,g4,h2,h3]
    exact ⟨by rw [h1]; rfl,_,rfl,hold⟩
end Go.Abs.Sym
end
section
namespace Go.Abs.T
open AV
set_option maxRecDepth 100000
def c3_r6 : ACode := (.seq (.reg [⟨s77,.mov,[v15],none⟩,⟨s78,.mov,[v17],none⟩,⟨s79,.bin .neq .bool,[v77,v78],none⟩,⟨s80,.mov,[v79],none⟩,⟨s81,.mov,[v19],(some (t80,false))⟩,⟨s82,.mov,[v21],(some (t80,false))⟩,⟨s83,.bin .neq .bool,[v81,v82],(some (t80,false))⟩,⟨s84,.pick,[v80,.const (bool true),v83],none⟩,⟨s85,.mov,[v84],none⟩,⟨s86,.fieldAddr 0,[v14],(some (t85,false))⟩,⟨s87,.load none,[v86],(some (t85,false))⟩,⟨s88,.fieldAddr 0,[v16],(some (t85,false))⟩,⟨s89,.load none,[v88],(some (t85,false))⟩,⟨s90,.bin .neq .one,[v87,v89],(some (t85,false))⟩,⟨s91,.pick,[v85,.const (bool true),v90],none⟩,⟨s92,.mov,[v91],none⟩,⟨s93,.fieldAddr 4,[v14],(some (t92,false))⟩,⟨s94,.load (some 2),[v93],(some (t92,false))⟩,⟨s95,.fieldAddr 4,[v16],(some (t92,false))⟩,⟨s96,.load (some 2),[v95],(some (t92,false))⟩,⟨s97,.bin .neq (.flat [.i,.i]),[v94,v96],(some (t92,false))⟩,⟨s98,.pick,[v92,.const (bool true),v97],none⟩,⟨s99,.mov,[v98],none⟩,⟨s100,.fieldAddr 6,[v14],(some (t99,false))⟩,⟨s101,.load none,[v100],(some (t99,false))⟩,⟨s102,.fieldAddr 6,[v16],(some (t99,false))⟩,⟨s103,.load none,[v102],(some (t99,false))⟩,⟨s104,.bin .neq .one,[v101,v103],(some (t99,false))⟩,⟨s105,.pick,[v99,.const (bool true),v104],none⟩,⟨s106,.mov,[v105],none⟩,⟨s107,.fieldAddr 1,[v14],(some (t106,false))⟩,⟨s108,.load (some 3),[v107],(some (t106,false))⟩,⟨s109,.fieldAddr 1,[v16],(some (t106,false))⟩,⟨s110,.load (some 3),[v109],(some (t106,false))⟩,⟨s111,.call,[.const (g t12),v108,v110],(some (t106,false))⟩,⟨s112,.un .not,[v111],(some (t106,false))⟩,⟨s113,.pick,[v106,.const (bool true),v112],none⟩,⟨s114,.mov,[v113],none⟩,⟨s115,.load (some 3),[v18],(some (t114,false))⟩,⟨s116,.load (some 3),[v20],(some (t114,false))⟩,⟨s117,.call,[.const (g t13),v115,v116],(some (t114,false))⟩,⟨s118,.un .not,[v117],(some (t114,false))⟩,⟨s119,.pick,[v114,.const (bool true),v118],none⟩]) (.cond (v119) (.seq (.reg [⟨s6,.mov,[.const (bool false)],none⟩]) .ret) .skip))
def c3_r5 : ACode := (.seq (.reg [⟨s69,.load (some 3),[v4],none⟩,⟨s70,.load (some 3),[v8],none⟩,⟨s71,.load (some 3),[v11],none⟩,⟨s72,.buildSl 3 3 [e0,nils,nils,e0,nils,nils,e0,nils,nils] [0,1,2],[v69,v70,v71],none⟩,⟨s73,.mov,[v13],none⟩,⟨s74,.call,[.const (g t11),v72,v73],none⟩,⟨s68,.mov,[v74],none⟩,⟨s75,.extract 0,[v68],none⟩,⟨s76,.extract 1,[v68],none⟩,⟨s20,.alloc [e0,nils,nils],[],none⟩,⟨none,.store 3,[v20,v75],none⟩,⟨s21,.mov,[v76],none⟩]) c3_r6)
theorem c3_l0_p : c3_l0 = (.seq (.reg [⟨s44,.bin .lss .one,[v43,v42],none⟩]) (.seq (.cond (v44) .skip (.exit 0)) (.seq (.block 1 (.seq (.reg [⟨s45,.indexAddr (.slc 1),[v41,v43],none⟩,⟨s46,.load none,[v45],none⟩,⟨s13,.mov,[v46],none⟩]) (.seq (.reg [⟨s48,.load (some 3),[v8],none⟩,⟨s49,.mov,[v13],none⟩,⟨s50,.call,[.const (g t8),v48,v49],none⟩,⟨s47,.mov,[v50],none⟩,⟨s51,.extract 0,[v47],none⟩,⟨s52,.extract 1,[v47],none⟩,⟨s14,.alloc [e0,i0,nils,i0,i0,i0,i0],[],none⟩,⟨none,.store 7,[v14,v51],none⟩,⟨s15,.mov,[v52],none⟩]) (.seq (.reg [⟨s54,.load (some 3),[v8],none⟩,⟨s55,.mov,[v13],none⟩,⟨s56,.call,[.const (g t9),v54,v55],none⟩,⟨s53,.mov,[v56],none⟩,⟨s57,.extract 0,[v53],none⟩,⟨s58,.extract 1,[v53],none⟩,⟨s16,.alloc [e0,i0,nils,i0,i0,i0,i0],[],none⟩,⟨none,.store 7,[v16,v57],none⟩,⟨s17,.mov,[v58],none⟩]) (.seq (.reg [⟨s60,.load (some 3),[v4],none⟩,⟨s61,.load (some 3),[v8],none⟩,⟨s62,.load (some 3),[v11],none⟩,⟨s63,.buildSl 3 3 [e0,nils,nils,e0,nils,nils,e0,nils,nils] [0,1,2],[v60,v61,v62],none⟩,⟨s64,.mov,[v13],none⟩,⟨s65,.call,[.const (g t10),v63,v64],none⟩,⟨s59,.mov,[v65],none⟩,⟨s66,.extract 0,[v59],none⟩,⟨s67,.extract 1,[v59],none⟩,⟨s18,.alloc [e0,nils,nils],[],none⟩,⟨none,.store 3,[v18,v66],none⟩,⟨s19,.mov,[v67],none⟩]) c3_r5))))) (.reg [⟨s120,.bin .add .one,[v43,.const i1],none⟩,⟨s43,.mov,[v120],none⟩])))) := rfl
def c3_fin : ACode := (.dreg [⟨⟨s121,.mov,[v7],none⟩,false,0,4,false,[],false⟩,⟨⟨s122,.mov,[v121],none⟩,false,0,4,false,[],false⟩,⟨⟨s123,.load (some 3),[v8],(some (t122,true))⟩,false,0,4,false,[],false⟩,⟨⟨s124,.load (some 3),[v11],(some (t122,true))⟩,false,0,4,false,[],false⟩,⟨⟨s125,.call,[.const (g t14),v123,v124],(some (t122,true))⟩,true,0,7,true,[],false⟩,⟨⟨s126,.load (some 3),[v8],(some (t122,true))⟩,false,0,7,true,[],false⟩,⟨⟨s127,.load (some 3),[v11],(some (t122,true))⟩,false,0,7,true,[],false⟩,⟨⟨s128,.call,[.const (g t13),v126,v127],(some (t122,true))⟩,true,5,13,true,[],false⟩,⟨⟨s129,.bin .eql .bool,[v125,v128],(some (t122,true))⟩,false,8,13,false,[],false⟩,⟨⟨s130,.pick,[v122,v129,.const (bool false)],none⟩,false,8,13,false,[],false⟩,⟨⟨s131,.mov,[v130],none⟩,false,8,13,false,[],false⟩,⟨⟨s132,.load (some 3),[v4],(some (t131,true))⟩,false,8,13,false,[],false⟩,⟨⟨s133,.load (some 3),[v8],(some (t131,true))⟩,false,8,13,false,[],false⟩,⟨⟨s134,.call,[.const (g t14),v132,v133],(some (t131,true))⟩,true,8,16,true,[],false⟩,⟨⟨s135,.load (some 3),[v4],(some (t131,true))⟩,false,8,16,true,[],false⟩,⟨⟨s136,.load (some 3),[v8],(some (t131,true))⟩,false,8,16,true,[],false⟩,⟨⟨s137,.call,[.const (g t13),v135,v136],(some (t131,true))⟩,true,14,22,true,[],false⟩,⟨⟨s138,.bin .eql .bool,[v134,v137],(some (t131,true))⟩,false,17,22,false,[],false⟩,⟨⟨s139,.pick,[v131,v138,.const (bool false)],none⟩,false,17,22,false,[],false⟩,⟨⟨s140,.mov,[v139],none⟩,false,17,22,false,[],false⟩,⟨⟨s141,.load (some 3),[v4],(some (t140,true))⟩,false,17,22,false,[],false⟩,⟨⟨s142,.load (some 3),[v4],(some (t140,true))⟩,false,17,22,false,[],false⟩,⟨⟨s143,.call,[.const (g t14),v141,v142],(some (t140,true))⟩,true,17,27,true,[],false⟩,⟨⟨s144,.pick,[v140,v143,.const (bool false)],none⟩,false,23,27,false,[],false⟩,⟨⟨s145,.mov,[v144],none⟩,false,23,27,false,[],false⟩,⟨⟨s146,.load (some 3),[v8],(some (t145,true))⟩,false,23,27,false,[],false⟩,⟨⟨s147,.load (some 3),[v8],(some (t145,true))⟩,false,23,27,false,[],false⟩,⟨⟨s148,.call,[.const (g t14),v146,v147],(some (t145,true))⟩,true,23,30,true,[],false⟩,⟨⟨s149,.pick,[v145,v148,.const (bool false)],none⟩,false,28,30,false,[],false⟩,⟨⟨s6,.mov,[v149],none⟩,false,28,30,false,[],true⟩])
theorem c3_p : c3 = ⟨150,[.tmp t6],(.seq (.reg [⟨s3,.box,[v0],none⟩,⟨s4,.box,[v1],none⟩,⟨s6,.mov,[.const (bool false)],none⟩]) (.seq (.reg [⟨s22,.call,[.const (g t4)],none⟩,⟨s7,.mov,[v22],none⟩]) (.seq (.reg [⟨s24,.load (some 9),[v3],none⟩,⟨s25,.call,[.const (g t5),v24],none⟩,⟨s23,.mov,[v25],none⟩,⟨s26,.extract 0,[v23],none⟩,⟨s27,.extract 1,[v23],none⟩,⟨s28,.extract 2,[v23],none⟩,⟨s8,.alloc [e0,nils,nils],[],none⟩,⟨none,.store 3,[v8,v26],none⟩,⟨s9,.mov,[v27],none⟩,⟨s10,.mov,[v28],none⟩]) (.seq (.dreg [⟨⟨s29,.load (some 3),[v4],none⟩,false,0,1,false,[],false⟩,⟨⟨s30,.call,[.const (g t6),v29],none⟩,true,0,7,true,[],false⟩,⟨⟨s31,.mov,[v2],none⟩,false,0,9,true,[],false⟩,⟨⟨s32,.mov,[v2],none⟩,false,0,9,true,[],false⟩,⟨⟨s33,.len .str,[v32],none⟩,false,0,9,true,[],false⟩,⟨⟨s34,.min,[v33,.const i20],none⟩,false,0,9,true,[],false⟩,⟨⟨s35,.slice .str false true false,[v31,v34],none⟩,false,0,9,true,[],false⟩,⟨⟨none,.store 3,[v4,v30],none⟩,true,2,9,true,[],false⟩,⟨⟨s2,.mov,[v35],none⟩,false,8,9,false,[],true⟩]) (.seq (.reg [⟨s36,.load (some 3),[v8],none⟩,⟨s37,.fieldAddr 3,[v3],none⟩,⟨s38,.load (some 3),[v37],none⟩,⟨s39,.call,[.const (g t7),v36,v38],none⟩,⟨s11,.alloc [e0,nils,nils],[],none⟩,⟨none,.store 3,[v11,v39],none⟩]) (.seq (.seq (.reg [⟨s40,.mov,[v2],none⟩,⟨s41,.buildSl 5 1 [e0,e0,e0,e0,e0] [0,1,2,3,4],[v40,.const (str [80,49]),.const (str [80,51]),.const (str [80,54]),.const (str [112,97,114,116])],none⟩,⟨s42,.len .slc,[v41],none⟩,⟨s43,.mov,[.const i0],none⟩]) (.block 0 (.loop c3_l0))) (.seq c3_fin .ret)))))))⟩ := rfl
end Go.Abs.T
end
section
namespace Go.Abs.Sym
open Go.Abs.T
open Go.Proofs
theorem find8_sum (T : TypD) (nm : List Nat) (hl : T.pads.l.length < 90000) (he : ∀ p ∈ T.pads.l,p.es.l.length < 90000) :
    (findP T nm = none ∧ ∀ h,K3.sums t8 [.agg (tyC T),.str nm] h = some (resP none)) ∨ ∃ (p : PadD) (s' : Sl Ed),findP T nm = some p ∧ s'.l = p.es.l ∧ ∀ h,K3.sums t8 [.agg (tyC T),.str nm] h = some (resP (some { p with es := s' })) := by
  obtain ⟨v,h1,hc,hv⟩ := find8 T nm hl he
  have go : frz v = true → ∀ h,K3.sums t8 [.agg (tyC T),.str nm] h = some v := fun hf h => over_fz' rfl hc (by simp only [frzs,frz,frz_ty,Bool.and_self]) hf h
  rcases hv with ⟨h2,rfl⟩ | ⟨p,s',h2,h3,rfl⟩
  · exact .inl ⟨h2,go (by simp only [resP,frz,frzs,frz_pad,Bool.and_self])⟩
  · exact .inr ⟨p,s',h2,h3,go (by simp only [resP,frz,frzs,frz_pad,Bool.and_self])⟩
theorem finds_eq (T : TypD) (nm : List Nat) (sm : Small T) : ∃ (P Q : PadD) (b : Bool),(∀ n h,callN K4 (n + 1) (g t8) [.agg (tyC T),.str nm] h = .ret (.tup [.agg (padC P),.bool b]) h) ∧ (∀ n h,callN K4 (n + 1) (g t9) [.agg (tyC T),.str nm] h = .ret (.tup [.agg (padC Q),.bool b]) h) ∧
    P.nm = Q.nm ∧ P.x = Q.x ∧ P.y = Q.y ∧ P.dr = Q.dr ∧ sameSh P.kd P.es P.r Q.kd Q.es Q.r = true ∧ P.es.l.length < 90000 := by
  have h9 : ∀ n h,callN K4 (n + 1) (g t9) [.agg (tyC T),.str nm] h = .ret (resP (findP T nm)) h := fun n h => call_sum (by rw [List.nil_append,List.append_nil,sums4 _ _ _ rfl rfl,sums3 _ _ _ rfl]; exact find9_sum T nm sm.pads h)
  rcases find8_sum T nm sm.pads sm.es with ⟨h1,h2⟩ | ⟨p,s',h1,h2,h3⟩
  · rw [h1] at h9
    exact ⟨pad0,pad0,false,fun n h => call_sum (by rw [List.nil_append,List.append_nil,sums4 _ _ _ rfl rfl]; exact h2 h),h9,rfl,rfl,rfl,rfl,by simp [sameSh],by decide⟩
  · rw [h1] at h9
    have hp : p ∈ T.pads.l := List.mem_of_find?_eq_some h1
    exact ⟨{ p with es := s' },p,true,fun n h => call_sum (by rw [List.nil_append,List.append_nil,sums4 _ _ _ rfl rfl]; exact h3 h),h9,rfl,rfl,rfl,rfl,by simp [sameSh,h2],by show s'.l.length < 90000; rw [h2]; exact sm.es p hp⟩
theorem all2_app {α : Type} {p : α → α → Bool} : ∀ {l m : List α} {a b : α},all2 p l m = true → p a b = true → all2 p (l ++ [a]) (m ++ [b]) = true
  | [],[],a,b,_,h => by simp only [List.nil_append,all2,h,Bool.and_self]
  | [],_ :: _,_,_,h,_ => by cases h
  | _ :: _,[],_,_,h,_ => by cases h
  | x :: l,y :: m,a,b,h,hp => by
    simp only [all2,Bool.and_eq_true] at h
    simp only [List.cons_append,all2,h.1,Bool.true_and]
    exact all2_app h.2 hp
theorem Cps.all2 {α : Type} {K : α → α → Prop} {p : α → α → Bool} (hk : ∀ a b,K a b → p b a = true) {l m : List α} (h : Cps K l m) : Sym.all2 p m l = true := by
  induction h with
  | nil => rfl
  | snoc _ h2 ih => exact all2_app ih (hk _ _ h2)
theorem Cps.all {α : Type} {K : α → α → Prop} {P Q : α → Prop} (hk : ∀ a b,K a b → P a → Q b) {l m : List α} (h : Cps K l m) (hp : ∀ a ∈ l,P a) : ∀ b ∈ m,Q b := by
  induction h with
  | nil => intro b hb; exact absurd hb List.not_mem_nil
  | snoc h1 h2 ih =>
    intro b hb
    rcases List.mem_append.1 hb with h | h
    · exact ih (fun a ha => hp a (List.mem_append_left _ ha)) b h
    · rw [List.mem_singleton.1 h]
      exact hk _ _ h2 (hp _ (List.mem_append_right _ (List.mem_singleton.2 rfl)))
theorem samePad_K (p q : PadD) (h : PadK p q) : samePad q p = true := by
  obtain ⟨s,hs,rfl⟩ := h
  simp [samePad,sameSh,hs]
theorem sameGate_K (p q : GateD) (h : GateK p q) : sameGate q p = true := by
  obtain ⟨s,hs,rfl⟩ := h
  simp [sameGate,hs]
theorem all2_refl {α : Type} {p : α → α → Bool} (h : ∀ a,p a a = true) : ∀ l : List α,all2 p l l = true
  | [] => rfl
  | a :: l => by simp only [all2,h,all2_refl h l,Bool.and_self]
theorem sameT_refl (T : TypD) : sameT T T = true := by
  simp only [sameT,decide_true,Bool.true_and,Bool.and_eq_true]
  exact ⟨all2_refl (fun p => by simp [samePad,sameSh]) _,all2_refl (fun p => by simp [sameGate]) _⟩
theorem sameT_copy {T U : TypD} (h : CopyT T U) : sameT U T = true := by
  obtain ⟨h1,h2,h3⟩ := h
  simp only [sameT,h1,decide_true,Bool.true_and,Bool.and_eq_true]
  exact ⟨h2.all2 samePad_K,h3.all2 sameGate_K⟩
theorem Small.copy {T U : TypD} (sm : Small T) (h : CopyT T U) : Small U := by
  obtain ⟨h1,h2,h3⟩ := h
  refine ⟨by rw [← h2.len]; exact sm.pads,by rw [← h3.len]; exact sm.gates,h2.all (P := fun p => p.es.l.length < 90000) (fun a b k ha => ?_) sm.es,h3.all (P := fun g => g.legs.l.length < 90000) (fun a b k ha => ?_) sm.legs⟩
  · obtain ⟨s,hs,rfl⟩ := k
    show s.l.length < 90000
    rw [hs]; exact ha
  · obtain ⟨s,hs,rfl⟩ := k
    show s.l.length < 90000
    rw [hs]; exact ha
theorem small0 : Small zeroT := ⟨by decide,by decide,fun _ h => absurd h List.not_mem_nil,fun _ h => absurd h List.not_mem_nil⟩
end Go.Abs.Sym
end
section
namespace Go.Abs.Sym
open Go.Abs.T
open Go.Proofs
def nms (nm : List Nat) : List (List Nat) := [nm,[80,49],[80,51],[80,54],[112,97,114,116]]
def LawI (R T O : TypD) (nm : List Nat) (m : Nat) (s : St) : Prop :=
  ∃ fr j t k,s = ⟨fr,[],⟨up .e j,t,.lf⟩,.no,none,t3⟩ ∧ 14 ≤ j ∧ k + m = 5 ∧ fr.get t4 = some (.ptr (up .e 1) 0) ∧ fr.get t8 = some (.ptr (up .e 2) 0) ∧ fr.get t11 = some (.ptr (up .e 12) 0) ∧ fr.get t7 = some (.bool true) ∧
    fr.get t41 = some (.slc (up .e 13) 0 5 1 (some 5)) ∧ fr.get t42 = some (.int .i64 (.ofNat 5)) ∧ fr.get t43 = some (.int .i64 (.ofNat k)) ∧
    t.get (up .e 1) = some (.cells (tyC R) false) ∧ t.get (up .e 2) = some (.cells (tyC T) false) ∧ t.get (up .e 12) = some (.cells (tyC O) false) ∧ t.get (up .e 13) = some (.cells ((nms nm).map AV.str) false)
theorem ex_0 (a : AV) (l : List AV) : (a :: l)[0]? = some a := rfl
theorem ex_1 (a b : AV) (l : List AV) : (a :: b :: l)[1]? = some b := rfl
theorem ex_2 (a b c : AV) (l : List AV) : (a :: b :: c :: l)[2]? = some c := rfl
theorem gets_eq (R T O : TypD) (smR : Small R) (smT : Small T) (smO : Small O) (nm : List Nat) {j b : Nat} {t : Tr AB} (hb : b < j) (hblk : t.get (up .e b) = some (.cells ([R,T,O].flatMap tyC) false)) :
    ∃ (j' : Nat) (t' : Tr AB) (pv gv : AV) (T' : TypD) (f : Bool),pv.one = true ∧ gv.one = true ∧ callN K4 59 (g t10) [.slc (up .e b) 0 3 3 (some 3),.str nm] ⟨up .e j,t,.lf⟩ = .ret (.tup [.agg [.str T'.nm,pv,gv],.bool f]) ⟨up .e j',t',.lf⟩ ∧ j ≤ j' ∧ (∀ i,i < j → t'.get (up .e i) = t.get (up .e i)) ∧ LiveT t' j j' (.agg [.str T'.nm,pv,gv]) T' ∧ Small T' ∧
      ∃ U,Small U ∧ sameT T' U = true ∧ resT ([R,T,O].find? (fun T => eqS T.nm nm)) = .tup [.agg (tyC U),.bool f] := by
  have hsm : ∀ X ∈ [R,T,O],Small X := by
    intro X hX
    simp only [List.mem_cons,List.not_mem_nil,or_false] at hX
    rcases hX with rfl | rfl | rfl <;> assumption
  obtain ⟨r,h',hr,j',t',v,T',rfl,h1,h2,h3,h4⟩ := get10 [R,T,O] rfl hsm nm hb hblk
  obtain ⟨pv,gv,hv,o1,o2⟩ := h3.ones
  rw [hv] at h3 h4
  rcases h4 with ⟨rfl,h5,rfl⟩ | ⟨rfl,X,h5,h6⟩
  · exact ⟨j',t',pv,gv,zeroT,false,o1,o2,hr,h1,h2,h3,small0,zeroT,small0,rfl,by rw [h5]; rfl⟩
  · have hX := hsm X (List.mem_of_find?_eq_some h5)
    exact ⟨j',t',pv,gv,T',true,o1,o2,hr,h1,h2,h3,hX.copy h6,X,hX,sameT_copy h6,by rw [h5]; rfl⟩
set_option maxRecDepth 10000 in
set_option maxHeartbeats 2000000 in
theorem law_round (R T O : TypD) (smR : Small R) (smT : Small T) (smO : Small O) (nm : List Nat) (m : Nat) (s : St) (h : LawI R T O nm m s) :
    Stp (LawI R T O nm) (fun o => ∃ s,o = .exit 0 s ∧ LawI R T O nm 0 s) m (execA K4 (callN K4 59) c3_l0 s) := by
  obtain ⟨fr,j,t,k,rfl,hj,hk,g4,g8,g11,g7,g41,g42,g43,a1,a2,a12,a13⟩ := h
  cases m with
  | zero =>
    have hkn : (k < 5) = False := eq_false (by omega)
    simp +decide only [c3_l0_p,execA,opsA,wantedA,evalAll,evalA,oneA,st_bin,binAV,St.put,Tr.get_put,if_true,cond_true,nbeq,decide_true,decide_false,eqK,kindNo,g42,g43,ltI_dec,hkn,stp_e]
    refine ⟨_,rfl,_,j,t,k,rfl,hj,hk,?_,?_,?_,?_,?_,?_,?_,a1,a2,a12,a13⟩
    all_goals simp +decide only [Tr.get_put,g4,g8,g11,g7,g41,g42,g43,if_false]
  | succ m =>
    have hkn : (k < 5) = True := eq_true (by omega)
    have hw := wr_add k 1 (by omega)
    have hia := ia_slc (id := up .e 13) (n := 5) (sz := 1) (p := k) (c := some 5) (by omega)
    simp only [Nat.zero_add,Nat.mul_one] at hia
    obtain ⟨s,hs⟩ := strs_at (nms nm) (x := k) (by show k < 5; omega)
    obtain ⟨P,Q,b,hP,hQ,e1,e2,e3,e4,e5,e6⟩ := finds_eq T s smT
    simp only [tyC] at hP hQ a1 a2 a12
    have zz : ∀ i,i < 14 → (i = j) = False := fun i hi => z_ne (by omega)
    have yy : ∀ i,i < 14 → ∀ c,(i = j + c) = False := fun i hi => z_ne' (by omega)
    have z1 := zz 1 (by decide)
    have z2 := zz 2 (by decide)
    have z3 := zz 12 (by decide)
    have z4 := zz 13 (by decide)
    have y1 := yy 1 (by decide)
    have y2 := yy 2 (by decide)
    have y3 := yy 12 (by decide)
    have y4 := yy 13 (by decide)
    simp +decide only [c3_l0_p,execA,opsA,wantedA,evalAll,evalA,oneA,st_mov,st_alloc,st_load,st_store,st_bin,st_call,st_indexAddr,st_extract,st_buildSl,ld_ptr,H.cellsAt,H.newB,partA,tk_0,tk_c,storeA,setAt,fillS,ones,cl_agg,on_int,on_str,on_slV,binAV,St.put,Tr.get_put,if_true,if_false,cond_true,Nat.zero_add,Nat.zero_mul,Nat.one_mul,up_succ,up_inj,List.length,nbeq,nble,decide_true,Nat.reduceAdd,Nat.reduceMul,eqK,kindNo,Option.map_some,Bool.and_self,Nat.add_assoc,ex_0,ex_1,z1,z2,z3,y1,y2,y3,padC,g4,g8,g11,g41,g42,g43,a1,a2,a12,a13,hia,hs,hP,hQ,ltI_dec,hkn]
    generalize hR : callN K4 59 (g t10) _ _ = X
    generalize hTT : Tr.put _ (up .e (j + 2)) _ = TT at hR
    have kb : TT.get (up .e (j + 2)) = some (.cells ([R,T,O].flatMap tyC) false) := by
      rw [← hTT,Tr.get_put,if_pos rfl]
      rfl
    have kp : TT.get (up .e j) = some (.cells [.str P.nm,.int .i64 P.kd,slV edC P.es,.int .i64 P.r,.int .i64 P.x,.int .i64 P.y,.int .i64 P.dr] false) := by
      rw [← hTT]
      simp +decide (disch := omega) only [Tr.get_put,up_ne,if_true,if_false]
    have kq : TT.get (up .e (j + 1)) = some (.cells [.str Q.nm,.int .i64 Q.kd,slV edC Q.es,.int .i64 Q.r,.int .i64 Q.x,.int .i64 Q.y,.int .i64 Q.dr] false) := by
      rw [← hTT]
      simp +decide (disch := omega) only [Tr.get_put,up_ne,if_true,if_false]
    have kold : ∀ i,i < j → TT.get (up .e i) = t.get (up .e i) := fun i hi => by
      rw [← hTT]
      simp +decide (disch := omega) only [Tr.get_put,up_ne,if_false]
    obtain ⟨j',t',pv,gv,T',f,o1,o2,h10,hj',told,hL,smT',U,smU,hsame,hres⟩ := gets_eq R T O smR smT smO s (j := j + 3) (b := j + 2) (by omega) kb
    have hR := hR.symm.trans h10
    subst hR
    clear hTT h10
    have b1 := (told 1 (by omega)).trans ((kold 1 (by omega)).trans a1)
    have b2 := (told 2 (by omega)).trans ((kold 2 (by omega)).trans a2)
    have b12 := (told 12 (by omega)).trans ((kold 12 (by omega)).trans a12)
    have b13 := (told 13 (by omega)).trans ((kold 13 (by omega)).trans a13)
    have bp := (told j (by omega)).trans kp
    have bq := (told (j + 1) (by omega)).trans kq
    have w1 := z_ne (i := 1) (j := j') (by omega)
    have w2 := z_ne (i := 2) (j := j') (by omega)
    have w3 := z_ne (i := 12) (j := j') (by omega)
    have x1 := z_ne' (i := 1) (j := j') (by omega)
    have x2 := z_ne' (i := 2) (j := j') (by omega)
    have x3 := z_ne' (i := 12) (j := j') (by omega)
    simp +decide only [c3_r5,execA,opsA,wantedA,evalAll,evalA,oneA,st_mov,st_alloc,st_load,st_store,st_call,st_extract,st_buildSl,ld_ptr,H.cellsAt,H.newB,partA,tk_0,tk_c,storeA,setAt,fillS,ones,cl_agg,on_str,St.put,Tr.get_put,if_true,if_false,cond_true,Nat.zero_add,Nat.zero_mul,Nat.one_mul,up_succ,up_inj,List.length,nbeq,nble,decide_true,Nat.reduceAdd,Nat.reduceMul,Option.map_some,Bool.and_self,Nat.add_assoc,ex_0,ex_1,w1,w2,w3,g4,g8,g11,b1,b2,b12,o1,o2]
    generalize hR2 : callN K4 59 (g t11) _ _ = X
    generalize hTT : Tr.put _ (up .e (j' + 1)) _ = TT at hR2
    have cb : TT.get (up .e (j' + 1)) = some (.cells ([R,T,O].flatMap tyC) false) := by
      rw [← hTT,Tr.get_put,if_pos rfl]
      rfl
    have cx : TT.get (up .e j') = some (.cells [.str T'.nm,pv,gv] false) := by
      rw [← hTT]
      simp +decide (disch := omega) only [Tr.get_put,up_ne,if_true,if_false]
    have cold : ∀ i,i < j' → TT.get (up .e i) = t'.get (up .e i) := fun i hi => by
      rw [← hTT]
      simp +decide (disch := omega) only [Tr.get_put,up_ne,if_false]
    obtain ⟨r2,h2,h11,hr2,t2,hh2,told2⟩ := get11 [R,T,O] rfl s (j := j' + 2) (b := j' + 1) (by omega) cb
    rw [hres] at hr2
    have hR3 := hR2.symm.trans h11
    rw [hr2,hh2] at hR3
    clear hR2 hTT h11 hres
    subst hR3
    have d1 := (told2 1 (by omega)).trans ((cold 1 (by omega)).trans b1)
    have d2 := (told2 2 (by omega)).trans ((cold 2 (by omega)).trans b2)
    have d12 := (told2 12 (by omega)).trans ((cold 12 (by omega)).trans b12)
    have d13 := (told2 13 (by omega)).trans ((cold 13 (by omega)).trans b13)
    have dp := (told2 j (by omega)).trans ((cold j (by omega)).trans bp)
    have dq := (told2 (j + 1) (by omega)).trans ((cold (j + 1) (by omega)).trans bq)
    have dx := (told2 j' (by omega)).trans cx
    have hL2 : LiveT t2 (j + 3) j' (.agg [.str T'.nm,pv,gv]) T' := hL.keep (fun i h1 h2 => (told2 i (by omega)).trans (cold i h2))
    have hc12 : ∀ h,callN K4 59 (g t12) [.agg [.int .i64 P.kd,slV edC P.es,.int .i64 P.r],.agg [.int .i64 Q.kd,slV edC Q.es,.int .i64 Q.r]] h = .ret (.bool true) h := fun h => by
      have := same12_sum P.kd P.es P.r Q.kd Q.es Q.r e6 h
      rw [e5] at this
      exact call_sum (by rw [List.nil_append,List.append_nil,sums4 _ _ _ rfl rfl,sums3 _ _ _ rfl,sums2_1 _ _ _ rfl rfl]; exact this)
    have v1 : (j = j' + 3) = False := eq_false (by omega)
    have v2 : (j + 1 = j' + 3) = False := eq_false (by omega)
    have v3 : (j' = j' + 3) = False := eq_false (by omega)
    have hc13 : ∀ nx t,LiveT t (j + 3) j' (.agg [.str T'.nm,pv,gv]) T' → callN K4 59 (g t13) [.agg [.str T'.nm,pv,gv],.agg [.str U.nm,slV padC U.pads,slV gateC U.gates]] ⟨nx,t,.lf⟩ = .ret (.bool true) ⟨nx,t,.lf⟩ := fun nx t hl => by
      have := same13_sum T' U smT' (.agg [.str T'.nm,pv,gv]) (.agg (tyC U)) (h := ⟨nx,t,.lf⟩) (hl.deep nx) (deep_frz _ _ _ (by simp only [frz,frz_ty]))
      rw [hsame] at this
      exact call_sum (by rw [List.nil_append,List.append_nil,sums4 _ _ _ rfl rfl,sums3 _ _ _ rfl]; exact this)
    have hl3 : ∀ X,LiveT (t2.put (up .e (j' + 3)) X) (j + 3) j' (.agg [.str T'.nm,pv,gv]) T' := fun X => hL2.keep (fun i h1 h2 => by
      rw [Tr.get_put,if_neg (fun e => by rw [up_inj] at e; omega)])
    have hl4 : ∀ X Y,LiveT ((t2.put (up .e (j' + 3)) X).put (up .e (j' + 3)) Y) (j + 3) j' (.agg [.str T'.nm,pv,gv]) T' := fun X Y => (hl3 X).keep (fun i h1 h2 => by
      rw [Tr.get_put,if_neg (fun e => by rw [up_inj] at e; omega)])
    have hc13' := fun nx X Y => hc13 nx _ (hl4 X Y)
    simp +decide only [c3_r6,execA,opsA,wantedA,evalAll,evalA,oneA,st_mov,st_load,st_store,st_bin,st_not,st_call,st_fieldAddr,st_extract,st_pick,ld_ptr,H.cellsAt,partA,tk_s,tk_0,tk_c,storeA,setAt,ones,cl_agg,on_str,on_slV,binAV,eqAV,St.put,Tr.get_put,if_true,if_false,cond_true,cond_false,Nat.zero_add,Nat.add_zero,up_succ,up_inj,List.length,nbeq,decide_true,Nat.reduceAdd,Bool.not_true,eqK,kindNo,Option.map_some,beq_self_eq_true,Bool.and_self,Nat.add_assoc,tyC,ex_0,ex_1,v1,v2,v3,dp,dq,dx,eqS_dec,eqI_dec,eq_pt,e1,e2,e3,e4,hc12,hc13',g43,hw,stp_n]
    refine ⟨m,by omega,_,_,_,k + 1,rfl,by omega,by omega,?_,?_,?_,?_,?_,?_,?_,?_,?_,?_,?_⟩
    all_goals simp +decide (disch := omega) only [Tr.get_put,up_ne,g4,g8,g11,g7,g41,g42,d1,d2,d12,d13,if_true,if_false,tyC]
end Go.Abs.Sym
end
section
namespace Go.Abs.Sym
open Go.Abs.T
open Go.Proofs
theorem lib14_c (T U : TypD) (sm : Small T) (h : H) : callN K4 59 (g t14) [.agg [.str T.nm,slV padC T.pads,slV gateC T.gates],.agg [.str U.nm,slV padC U.pads,slV gateC U.gates]] h = .ret (.bool (sameT T U)) h :=
  call_sum (lib14_sum T U sm (.agg (tyC T)) (.agg (tyC U)) (h := h) (deep_frz _ _ _ (by simp only [frz,frz_ty])) (deep_frz _ _ _ (by simp only [frz,frz_ty])))
theorem ref13_c (T U : TypD) (sm : Small T) (h : H) : callN K4 59 (g t13) [.agg [.str T.nm,slV padC T.pads,slV gateC T.gates],.agg [.str U.nm,slV padC U.pads,slV gateC U.gates]] h = .ret (.bool (sameT T U)) h :=
  call_sum (by
    rw [List.nil_append,List.append_nil,sums4 _ _ _ rfl rfl,sums3 _ _ _ rfl]
    exact same13_sum T U sm (.agg (tyC T)) (.agg (tyC U)) (h := h) (deep_frz _ _ _ (by simp only [frz,frz_ty])) (deep_frz _ _ _ (by simp only [frz,frz_ty])))
theorem sane (h : H) : callN K4 59 (g t4) [] h = .ret (.bool true) h := call_sum (by kernel_rfl)
set_option maxRecDepth 10000 in
set_option maxHeartbeats 1000000 in
theorem law3 (c : CaseD) (hc : CaseOK c) (R0 : TypD) (name : List Nat) : Ret (callN K4 60 (.fn t3 [] []) [.agg (caseC c),.agg (tyC R0),.str name] h0) (fun v _ => v = .bool true) := by
  have hs : ∀ xs,K4.sums t3 xs h0 = none := fun _ => rfl
  have hF : K4.funcs.get t3 = some c3 := rfl
  refine begin3 (hs _) hF fun fr t ga gb gc => ?_
  rw [c3_p]
  obtain ⟨T,n1,n2,k1,k2,k3,k4,smT,hm⟩ := made5_sum c hc
  obtain ⟨R,smR,hcut⟩ := cut6_sum R0
  obtain ⟨O,smO,hodd⟩ := odd7_sum T smT (by omega) (by omega) (by omega) c.o0 c.o1 c.o2
  have cm : ∀ h,callN K4 59 (g t5) [.agg (caseC c)] h = .ret (.tup [.agg (tyC T),n1,n2]) h := fun h => call_sum (hm h)
  have cc : ∀ h,callN K4 59 (g t6) [.agg (tyC R0)] h = .ret (.agg (tyC R)) h := fun h => call_sum (by rw [List.nil_append,List.append_nil,sums4 _ _ _ rfl rfl]; exact hcut h)
  have co : ∀ h,callN K4 59 (g t7) [.agg (tyC T),.agg [.int .i64 c.o0,.int .i64 c.o1,.int .i64 c.o2]] h = .ret (.agg (tyC O)) h := fun h => call_sum (by rw [List.nil_append,List.append_nil,sums4 _ _ _ rfl rfl]; exact hodd h)
  have hs1 := slice_str (s := name) (m := min name.length 20) (by omega)
  simp only [caseC] at ga cm
  simp only [tyC] at gb cm cc co
  simp +decide only [execA,opsA,wantedA,evalAll,evalA,oneA,dregA,dopsA,dstep,isMaker,withP_nil,takesP_nil,leavesP_nil,rd_mov,rd_load,rd_slice,rd_len,rd_min,st_mov,st_alloc,st_box,st_load,st_store,st_call,st_fieldAddr,st_extract,st_slice,st_len,st_min,st_buildSl,ld_ptr,H.cellsAt,H.newB,partA,tk_s,tk_0,tk_c,storeA,setAt,fillS,ones,cl_agg,on_str,cl_str,on_slV,ln_slc,ln_str,St.put,Tr.get_put,if_true,if_false,cond_true,cond_false,Nat.zero_add,Nat.zero_mul,Nat.one_mul,skip_up0,up_up,up_succ,List.length,seesHeap,quiet,nbeq,nble,decide_true,Nat.reduceAdd,Nat.reduceMul,Bool.and_true,Bool.and_false,Bool.or_true,List.all,Option.map_some,Bool.and_self,ex_0,ex_1,ex_2,ga,gb,gc,cm,cc,co,sane,min_nat,hs1,kf4]
  generalize hit : iterA (execA K4 (callN K4 59) c3_l0) 100000 _ = o
  have ho : ∃ s,o = .exit 0 s ∧ LawI R T O (name.take (min name.length 20)) 0 s := by
    rw [← hit]
    refine iter_rule (LawI R T O (name.take (min name.length 20))) (fun o => ∃ s,o = .exit 0 s ∧ LawI R T O (name.take (min name.length 20)) 0 s) (fun m s h => law_round R T O smR smT smO _ m s h) 100000 5 _ ?_ (by decide)
    refine ⟨_,14,_,0,rfl,Nat.le_refl _,rfl,?_,?_,?_,?_,?_,?_,?_,?_,?_,?_,?_⟩
    all_goals simp +decide (disch := omega) only [Tr.get_put,if_true,if_false,tyC,nms,List.map_cons,List.map_nil]
  clear hit
  obtain ⟨s,rfl,fr2,j,t2,k,rfl,hj,hk,g4,g8,g11,g7,g41,g42,g43,a1,a2,a12,a13⟩ := ho
  simp only [tyC] at a1 a2 a12
  have cTO := lib14_c T O smT
  have dTO := ref13_c T O smT
  have cRT := lib14_c R T smR
  have dRT := ref13_c R T smR
  have cRR := lib14_c R R smR
  have cTT := lib14_c T T smT
  rw [sameT_refl] at cRR cTT
  simp +decide only [c3_fin,execA,wantedA,evalAll,evalA,oneA,dregA,dopsA,dstep,isMaker,withP_nil,takesP_nil,leavesP_nil,rd_mov,rd_pick,rd_load,rd_bin,st_mov,st_load,st_bin,st_call,st_pick,ld_ptr,H.cellsAt,partA,tk_0,tk_c,binAV,eqAV,St.put,Tr.get_put,if_true,if_false,cond_true,cond_false,Nat.zero_add,skip_up0,up_up,up_succ,List.length,seesHeap,quiet,recheck,nble,decide_true,decide_false,Nat.reduceAdd,Bool.and_true,Bool.and_false,Bool.or_true,List.all,ret_iff,leaveA,dfrsA,resultA,resultsA,Option.map_some,beq_self_eq_true,beq_rfl,Bool.and_self,Nat.add_assoc,g4,g8,g11,g7,a1,a2,a12,cTO,dTO,cRT,dRT,cRR,cTT]
end Go.Abs.Sym
end
