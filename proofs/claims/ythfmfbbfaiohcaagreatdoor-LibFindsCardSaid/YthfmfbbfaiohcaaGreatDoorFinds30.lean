/- A part of the proof that LibFinds answers true at every input: AbsSym18, AbsLp2, AbsSym19, AbsSym20, AbsSym21, AbsSym22. -/
import Derived.Test.YthfmfbbfaiohcaaGreatDoorFinds29
import Derived.Test.YthfmfbbfaiohcaaGreatDoorFinds27
section
namespace Go.Abs.Sym
open Go.Abs.T
open Go.Proofs
theorem made_fin (nm : List Nat) (L : Sl Int) {many m : Nat} (hm : many ≤ 6) {rs : List (List AV)} {Et : Nat → Nat → Prop} (hk : rs.length + (m + 1) = many) (hr : ∀ r ∈ rs,PadR Et r) {fr' : Tr AV} {j' : Nat} {t' : Tr AB} {nb' : Nat} {pv' : AV} {row : List AV} {Et' : Nat → Nat → Prop}
    (hj' : 3 ≤ j') (g4 : fr'.get t4 = some (.ptr (up .e 0) 0)) (g5 : fr'.get t5 = some (.ptr (up .e 1) 0)) (g6 : fr'.get t6 = some (.ptr (up .e 2) 0)) (g7 : fr'.get t7 = some (.int .i64 (.ofNat many))) (g8 : fr'.get t8 = some (.int .i64 (.ofNat rs.length)))
    (a0 : t'.get (up .e 0) = some (.cells [e0,.nils,.nils] false)) (ad : DrawAt t' (up .e 1) L) (a2 : t'.get (up .e 2) = some (.cells [.str nm,pv',.nils] false))
    (hg' : Grow 7 t' 3 j' nb' pv' (rs ++ [row])) (hrow : PadR Et' row) (hT' : Typed edC Et' t') (hE' : ∀ i n,Et' i n → 3 ≤ i ∧ i < j' ∧ i ≠ nb') (hEE : ∀ i n,Et i n → Et' i n) :
    Stp (MadeI nm L many) (MadeQ nm L many) (m + 1) (execA K2 (callN K2 49) (.reg [⟨s23,.mov,[v8],none⟩,⟨s24,.bin .add .one,[v23,.const i1],none⟩,⟨s8,.mov,[v24],none⟩]) ⟨fr',[],⟨up .e j',t',.lf⟩,.no,none,t22⟩) := by
  have hw := wr_add rs.length 1 (by omega)
  simp +decide (disch := omega) only [execA,opsA,wantedA,evalAll,evalA,oneA,st_mov,st_bin,binAV,St.put,Tr.get_put,if_true,if_false,cond_true,nbeq,decide_true,eqK,kindNo,g8,hw,stp_n]
  have hl : (rs ++ [row]).length = rs.length + 1 := by rw [List.length_append]; rfl
  refine ⟨m,by omega,⟨_,j',t',nb',pv',rs ++ [row],Et',rfl,hj',by omega,?_,?_,?_,?_,?_,a0,ad,a2,hg',?_,hT',hE'⟩⟩
  any_goals simp +decide only [Tr.get_put,g4,g5,g6,g7,g8,hl,if_true,if_false]
  intro r hr'
  rcases List.mem_append.1 hr' with h | h
  · exact (hr r h).mono hEE
  · rw [List.mem_singleton.1 h]; exact hrow
set_option maxHeartbeats 1000000 in
theorem made_round (nm : List Nat) (L : Sl Int) (hL : L.l.length < 9223372036854775808) {many : Nat} (hm : many ≤ 6) (m : Nat) (s : St) (h : MadeI nm L many m s) :
    Stp (MadeI nm L many) (MadeQ nm L many) m (execA K2 (callN K2 49) c22_l0 s) := by
  obtain ⟨fr,j,t,nb,pv,rs,Et,rfl,hj,hk,g4,g5,g6,g7,g8,a0,ad,a2,hg,hr,hT,hE⟩ := h.ex
  have hnb : nb < j := by
    rcases hg with ⟨_,_,h⟩ | ⟨_,_,_,_,h⟩ <;> omega
  cases m with
  | zero =>
    have hkn : (rs.length < many) = False := eq_false (by omega)
    simp +decide (disch := omega) only [c22_l0,execA,opsA,wantedA,evalAll,evalA,oneA,st_mov,st_bin,binAV,St.put,Tr.get_put,if_true,if_false,cond_true,nbeq,decide_true,decide_false,eqK,kindNo,g7,g8,ltI_dec,hkn,stp_e]
    refine ⟨_,rfl,⟨_,j,t,nb,pv,rs,Et,rfl,hj,hk,?_,?_,?_,?_,?_,a0,ad,a2,hg,hr,hT,hE⟩⟩
    all_goals simp +decide only [Tr.get_put,g4,g5,g6,g7,g8,if_false]
  | succ m =>
    have hkn : (rs.length < many) = True := eq_true (by omega)
    have hnm := names2 (k := rs.length) (by omega)
    simp +decide (disch := omega) only [c22_l0,execA,opsA,wantedA,evalAll,evalA,oneA,st_mov,st_alloc,st_bin,st_call,st_build,H.newB,binAV,St.put,Tr.get_put,if_true,if_false,cond_true,nbeq,decide_true,eqK,kindNo,g5,g7,g8,ltI_dec,hkn,hnm]
    generalize hR1 : callN K2 49 (g t57) _ _ = R1
    obtain ⟨x1,p1,j1,rfl,hx1,hj1,hp1⟩ := next2 (n := 2) (by decide) (by decide) hL hR1 ad
    simp +decide (disch := omega) only [execA,opsA,wantedA,evalAll,evalA,oneA,st_mov,st_alloc,st_load,st_store,st_bin,st_call,st_fieldAddr,ld_ptr,H.cellsAt,H.newB,partA,tk_s,tk_0,tk_c,storeA,setAt,fillA,ones,cl_agg,on_int,cl_int,on_str,cl_str,on_nils,binAV,St.put,Tr.get_put,if_true,if_false,cond_true,Nat.zero_add,up_succ,up_ne,Bool.and_self,List.length,nbeq,nble,decide_true,Nat.reduceAdd,eqK,kindNo,Option.map_some,c22_b,g5]
    generalize hR2 : callN K2 49 (g t57) _ _ = R2
    obtain ⟨x2,p2,j2,rfl,hx2,hj2,hp2⟩ := next2 (n := 3) (by decide) (by decide) hL hR2 (((((DrawAt.self hp1).put (by omega) _).put (by omega) _).put (by omega) _).put (by omega) _)
    simp +decide (disch := omega) only
    generalize hX : execA K2 (callN K2 49) c22_sw _ = o
    have hT' : ∀ t' : Tr AB,(∀ i,2 ≤ i → i < j → t'.get (up .e i) = t.get (up .e i)) → Typed edC Et t' := by
      intro t' h i n hi
      have h1 := hE i n hi
      obtain ⟨ls,sp,h2,h3⟩ := hT i n hi
      exact ⟨ls,sp,h2,(h i (by omega) (by omega)).trans h3⟩
    have hg' : ∀ t' : Tr AB,(∀ i,2 ≤ i → i < j → t'.get (up .e i) = t.get (up .e i)) → ∀ j',j ≤ j' → Grow 7 t' 3 j' nb pv rs := fun t' h j' hj' => hg.keep hj' (fun h1 h2 => h nb (by omega) h2)
    obtain ⟨fr2,j3,t3,kd,ev,rr,Et2,rfl,hj3,k4,k5,k6,k7,k8,k9,b0,bd,b2,bp,hev,hg2,hT2,hE2,hEE⟩ := made_sw nm L hL (many := many) (nb := nb) (pb := j1) (xb := j1 + 1) (pv := pv) (rs := rs) (Et := Et) (pn := nmOf rs.length) (x := wrapA .i64 (.ofNat 30 * .ofNat rs.length)) (y := wrapA .i64 (.ofNat 10 * .ofNat x1)) hx2 hX (by omega)
      (by simp +decide only [Tr.get_put,g4,if_false]) (by simp +decide only [Tr.get_put,g5,if_false]) (by simp +decide only [Tr.get_put,g6,if_false]) (by simp +decide only [Tr.get_put,g7,if_false]) (by simp +decide only [Tr.get_put,g8,if_false])
      (by simp +decide only [Tr.get_put,if_true,if_false]) (by simp +decide only [Tr.get_put,if_true,if_false]) (by simp +decide only [Tr.get_put,if_true,if_false]) (by omega) (by omega) (by omega)
      (by simp +decide (disch := omega) only [Tr.get_put,up_ne,a0,if_false]) (DrawAt.self hp2) (by simp +decide (disch := omega) only [Tr.get_put,up_ne,a2,if_false])
      (by simp +decide (disch := omega) only [Tr.get_put,up_ne,if_true,if_false]; rfl) (by simp +decide (disch := omega) only [Tr.get_put,up_ne,if_true,if_false])
      (hg' _ (fun i h1 h2 => by simp +decide (disch := omega) only [Tr.get_put,up_ne,if_false]) _ (by omega)) (by omega) (hT' _ (fun i h1 h2 => by simp +decide (disch := omega) only [Tr.get_put,up_ne,if_false])) (fun i n h => by have := hE i n h; omega)
    simp +decide (disch := omega) only
    generalize hX2 : execA K2 (callN K2 49) c22_tl _ = o
    obtain ⟨fr4,j4,t4',nb',pv',row,rfl,hj4,l4,l5,l6,l7,l8,d0,dd,d2,hg3,hrow,hT3,hE3⟩ := made_tail nm L hL (Et := Et2) hm hX2 (by omega) hk k4 k5 k6 k7 k8 k9 (by omega) (by omega) b0 bd b2 bp hev hg2 (by omega) (fun r h => (hr r h).mono hEE) hT2 hE2
    exact made_fin nm L hm hk hr hj4 l4 l5 l6 l7 l8 d0 dd d2 hg3 hrow hT3 hE3 hEE
end Go.Abs.Sym
end
section
namespace Go.Abs.T
open AV
set_option maxRecDepth 100000
def c22_g2t : ACode := (.seq (.reg [⟨s116,.mov,[v5],none⟩,⟨s117,.call,[.const (g t57),v116,.const i2],none⟩,⟨s11,.mov,[v117],none⟩]) (.reg [⟨s118,.call,[.const (g t58),.const i0],none⟩,⟨s119,.mov,[v11],none⟩,⟨s120,.build [e0,i0] [(0,1),(1,1)],[v118,v119],none⟩,⟨s121,.call,[.const (g t58),.const i1],none⟩,⟨s122,.mov,[v11],none⟩,⟨s123,.build [e0,i0] [(0,1),(1,1)],[v121,v122],none⟩,⟨s124,.buildSl 2 2 [e0,i0,e0,i0] [0,1],[v120,v123],none⟩,⟨s125,.build [i0,nils] [(0,1),(1,1)],[.const i1,v124],none⟩,⟨s126,.call,[.const (g t58),.const i2],none⟩,⟨s127,.mov,[v11],none⟩,⟨s128,.build [e0,i0] [(0,1),(1,1)],[v126,v127],none⟩,⟨s129,.call,[.const (g t58),.const i3],none⟩,⟨s130,.mov,[v11],none⟩,⟨s131,.build [e0,i0] [(0,1),(1,1)],[v129,v130],none⟩,⟨s132,.buildSl 2 2 [e0,i0,e0,i0] [0,1],[v128,v131],none⟩,⟨s133,.build [i0,nils] [(0,1),(1,1)],[.const i1,v132],none⟩,⟨s134,.buildSl 2 2 [i0,nils,i0,nils] [0,1],[v125,v133],none⟩,⟨s135,.fieldAddr 2,[v6],none⟩,⟨none,.store 1,[v135,v134],none⟩]))
theorem c22_g2_p : c22_g2 = (.seq (.reg [⟨s109,.mov,[v7],none⟩,⟨s110,.bin .geq .one,[v109,.const i4],none⟩,⟨s111,.mov,[v110],none⟩,⟨s112,.mov,[v5],(some (t111,true))⟩,⟨s113,.call,[.const (g t57),v112,.const i3],(some (t111,true))⟩,⟨s114,.bin .gtr .one,[v113,.const i0],(some (t111,true))⟩,⟨s115,.pick,[v111,v114,.const (bool false)],none⟩]) (.cond (v115) c22_g2t .skip)) := rfl
def c22_g3t : ACode := (.dreg [⟨⟨s149,.fieldAddr 2,[v6],none⟩,false,0,27,true,[],false⟩,⟨⟨s150,.load none,[v149],none⟩,false,0,27,true,[],false⟩,⟨⟨s151,.mov,[v5],none⟩,false,0,3,false,[],false⟩,⟨⟨s152,.call,[.const (g t57),v151,.const i3],none⟩,true,0,4,true,[],false⟩,⟨⟨s153,.call,[.const (g t58),.const i5],none⟩,true,4,14,true,[],false⟩,⟨⟨s154,.fieldAddr 2,[v6],none⟩,false,0,27,true,[],false⟩,⟨⟨s155,.load none,[v154],none⟩,false,0,27,true,[],false⟩,⟨⟨s156,.indexAddr (.slc 2),[v155,.const i0],none⟩,false,0,27,true,[],false⟩,⟨⟨s157,.fieldAddr 1,[v156],none⟩,false,0,27,true,[],false⟩,⟨⟨s158,.load none,[v157],none⟩,false,0,27,true,[],false⟩,⟨⟨s159,.indexAddr (.slc 2),[v158,.const i0],none⟩,false,0,27,true,[],false⟩,⟨⟨s160,.fieldAddr 1,[v159],none⟩,false,0,27,true,[],false⟩,⟨⟨s161,.load none,[v160],none⟩,false,0,27,true,[],false⟩,⟨⟨s162,.build [e0,i0] [(0,1),(1,1)],[v153,v161],none⟩,false,5,27,true,[],false⟩,⟨⟨s163,.call,[.const (g t58),.const i4],none⟩,true,5,27,true,[],false⟩,⟨⟨s164,.fieldAddr 2,[v6],none⟩,false,0,27,true,[],false⟩,⟨⟨s165,.load none,[v164],none⟩,false,0,27,true,[],false⟩,⟨⟨s166,.indexAddr (.slc 2),[v165,.const i0],none⟩,false,0,27,true,[],false⟩,⟨⟨s167,.fieldAddr 1,[v166],none⟩,false,0,27,true,[],false⟩,⟨⟨s168,.load none,[v167],none⟩,false,0,27,true,[],false⟩,⟨⟨s169,.indexAddr (.slc 2),[v168,.const i1],none⟩,false,0,27,true,[],false⟩,⟨⟨s170,.fieldAddr 1,[v169],none⟩,false,0,27,true,[],false⟩,⟨⟨s171,.load none,[v170],none⟩,false,0,27,true,[],false⟩,⟨⟨s172,.build [e0,i0] [(0,1),(1,1)],[v163,v171],none⟩,false,15,27,false,[],false⟩,⟨⟨s173,.buildSl 2 2 [e0,i0,e0,i0] [0,1],[v162,v172],none⟩,false,15,27,false,[],false⟩,⟨⟨s174,.build [i0,nils] [(0,1),(1,1)],[v152,v173],none⟩,false,15,27,false,[24],false⟩,⟨⟨s175,.buildSl 1 2 [i0,nils] [0],[v174],none⟩,false,15,27,false,[24],false⟩,⟨⟨s176,.append 2 32 false,[v150,v175],none⟩,true,15,29,true,[24,26],false⟩,⟨⟨s177,.fieldAddr 2,[v6],none⟩,false,28,29,false,[24,26],false⟩,⟨⟨none,.store 1,[v177,v176],none⟩,true,28,30,true,[24,26],true⟩])
theorem c22_g3_p : c22_g3 = (.seq (.reg [⟨s136,.mov,[v7],none⟩,⟨s137,.bin .eql .one,[v136,.const i6],none⟩,⟨s138,.mov,[v137],none⟩,⟨s139,.fieldAddr 2,[v6],(some (t138,true))⟩,⟨s140,.load none,[v139],(some (t138,true))⟩,⟨s141,.len .slc,[v140],(some (t138,true))⟩,⟨s142,.bin .gtr .one,[v141,.const i0],(some (t138,true))⟩,⟨s143,.pick,[v138,v142,.const (bool false)],none⟩,⟨s144,.mov,[v143],none⟩,⟨s145,.mov,[v5],(some (t144,true))⟩,⟨s146,.call,[.const (g t57),v145,.const i2],(some (t144,true))⟩,⟨s147,.bin .eql .one,[v146,.const i1],(some (t144,true))⟩,⟨s148,.pick,[v144,v147,.const (bool false)],none⟩]) (.cond (v148) c22_g3t .skip)) := rfl
end Go.Abs.T
end
section
namespace Go.Abs.Sym
open Go.Abs.T
open Go.Proofs
def FrM (fr : Tr AV) (many : Nat) : Prop := fr.get t4 = some (.ptr (up .e 0) 0) ∧ fr.get t5 = some (.ptr (up .e 1) 0) ∧ fr.get t6 = some (.ptr (up .e 2) 0) ∧ fr.get t7 = some (.int .i64 (.ofNat many))
def PadsM (nm : List Nat) (L : Sl Int) (many : Nat) (pv : AV) (rs : List (List AV)) (nb j0 : Nat) (Et : Nat → Nat → Prop) (gv : AV) (t : Tr AB) : Prop :=
  t.get (up .e 0) = some (.cells [e0,.nils,.nils] false) ∧ DrawAt t (up .e 1) L ∧ t.get (up .e 2) = some (.cells [.str nm,pv,gv] false) ∧
    Grow 7 t 3 j0 nb pv rs ∧ rs.length = many ∧ (∀ r ∈ rs,PadR Et r) ∧ Typed edC Et t ∧ (∀ i n,Et i n → 3 ≤ i ∧ i < j0 ∧ i ≠ nb)
theorem PadsM.keep {nm : List Nat} {L : Sl Int} {many : Nat} {pv : AV} {rs : List (List AV)} {nb j0 : Nat} {Et : Nat → Nat → Prop} {gv gv' : AV} {t t' : Tr AB} (h : PadsM nm L many pv rs nb j0 Et gv t)
    (h1 : DrawAt t' (up .e 1) L) (h2 : t'.get (up .e 2) = some (.cells [.str nm,pv,gv'] false)) (h3 : ∀ i,i < j0 → i ≠ 1 → i ≠ 2 → t'.get (up .e i) = t.get (up .e i)) (hj : 3 ≤ j0) : PadsM nm L many pv rs nb j0 Et gv' t' := by
  obtain ⟨a0,ad,a2,hg,hn,hr,hT,hE⟩ := h
  refine ⟨(h3 0 (by omega) (by omega) (by omega)).trans a0,h1,h2,hg.keep (Nat.le_refl _) (fun k1 k2 => h3 nb k2 (by omega) (by omega)),hn,hr,fun i n hi => ?_,hE⟩
  obtain ⟨ls,sp,k1,k2⟩ := hT i n hi
  have := hE i n hi
  exact ⟨ls,sp,k1,(h3 i (by omega) (by omega) (by omega)).trans k2⟩
def GV (t : Tr AB) (gv : AV) : Prop :=
  gv = .nils ∨ ∃ (gb n : Nat) (c : Option Nat) (rs : List (List AV)) (sp : Bool) (Lt : Nat → Nat → Prop),gv = .slc (up .e gb) 0 n 2 c ∧ rs.length = n ∧ n < 90000 ∧ t.get (up .e gb) = some (.cells rs.flatten sp) ∧ (∀ r ∈ rs,GateR Lt r) ∧ Typed lgC Lt t ∧ 3 ≤ gb ∧ ∀ i n,Lt i n → 3 ≤ i
def gl : AV → Nat
  | .slc _ _ n _ _ => n
  | _ => 0
theorem b_lt (a b : Nat) : ltI (.ofNat a) (.ofNat b) = decide (a < b) := ltI_dec a b
theorem b_le (a b : Nat) : leI (.ofNat a) (.ofNat b) = decide (a ≤ b) := by
  show Nat.ble a b = _
  exact nble a b
theorem b_eq (a b : Nat) : eqI (.ofNat a) (.ofNat b) = decide (a = b) := by
  show Nat.beq a b = _
  exact nbeq a b
theorem g1_skip {many : Nat} (hm : 4 ≤ many) {fr : Tr AV} {h : H} (hf : FrM fr many) : ∃ fr',execA K2 (callN K2 49) c22_g1 ⟨fr,[],h,.no,none,t22⟩ = .nrm ⟨fr',[],h,.no,none,t22⟩ ∧ FrM fr' many := by
  obtain ⟨g4,g5,g6,g7⟩ := hf
  have hl : ltI (.ofNat many) (.ofNat 4) = false := by rw [b_lt]; exact decide_eq_false (by omega)
  simp +decide only [c22_g1,execA,opsA,wantedA,evalAll,evalA,oneA,st_mov,st_bin,st_pick,binAV,St.put,Tr.get_put,if_true,if_false,cond_true,cond_false,nbeq,decide_true,eqK,kindNo,beq_t,g7,hl]
  refine ⟨_,rfl,?_,?_,?_,?_⟩ <;> simp +decide only [Tr.get_put,g4,g5,g6,g7,if_false]
theorem g2_skip {many : Nat} (hm : many < 4) {fr : Tr AV} {h : H} (hf : FrM fr many) : ∃ fr',execA K2 (callN K2 49) c22_g2 ⟨fr,[],h,.no,none,t22⟩ = .nrm ⟨fr',[],h,.no,none,t22⟩ ∧ FrM fr' many := by
  obtain ⟨g4,g5,g6,g7⟩ := hf
  have hl : leI (.ofNat 4) (.ofNat many) = false := by rw [b_le]; exact decide_eq_false (by omega)
  simp +decide only [c22_g2,execA,opsA,wantedA,evalAll,evalA,oneA,st_mov,st_bin,st_pick,binAV,St.put,Tr.get_put,if_true,if_false,cond_true,cond_false,nbeq,decide_true,eqK,kindNo,beq_t,g7,hl]
  refine ⟨_,rfl,?_,?_,?_,?_⟩ <;> simp +decide only [Tr.get_put,g4,g5,g6,g7,if_false]
theorem g3_skip {many : Nat} (hm : many ≠ 6) {fr : Tr AV} {h : H} (hf : FrM fr many) : ∃ fr',execA K2 (callN K2 49) c22_g3 ⟨fr,[],h,.no,none,t22⟩ = .nrm ⟨fr',[],h,.no,none,t22⟩ ∧ FrM fr' many := by
  obtain ⟨g4,g5,g6,g7⟩ := hf
  have hl : eqI (.ofNat many) (.ofNat 6) = false := by rw [b_eq]; exact decide_eq_false hm
  simp +decide only [c22_g3,execA,opsA,wantedA,evalAll,evalA,oneA,st_mov,st_bin,st_pick,binAV,eqAV,St.put,Tr.get_put,if_true,if_false,cond_true,cond_false,nbeq,decide_true,eqK,kindNo,Option.map_some,beq_t,g7,hl]
  refine ⟨_,rfl,?_,?_,?_,?_⟩ <;> simp +decide only [Tr.get_put,g4,g5,g6,g7,if_false]
set_option maxHeartbeats 1000000 in
theorem g1_run {nm : List Nat} {L : Sl Int} (hL : L.l.length < 9223372036854775808) {many : Nat} (hm : many < 4) {pv : AV} {rs : List (List AV)} {nb j0 : Nat} {Et : Nat → Nat → Prop} (hj : 3 ≤ j0) {fr : Tr AV} {t : Tr AB} (hf : FrM fr many) (hp : PadsM nm L many pv rs nb j0 Et .nils t) :
    ∃ fr' j' t' gv,execA K2 (callN K2 49) c22_g1 ⟨fr,[],⟨up .e j0,t,.lf⟩,.no,none,t22⟩ = .nrm ⟨fr',[],⟨up .e j',t',.lf⟩,.no,none,t22⟩ ∧ j0 ≤ j' ∧ FrM fr' many ∧ PadsM nm L many pv rs nb j0 Et gv t' ∧ GV t' gv ∧ gl gv ≤ 3 := by
  obtain ⟨g4,g5,g6,g7⟩ := hf
  have hl : ltI (.ofNat many) (.ofNat 4) = true := by rw [b_lt]; exact decide_eq_true hm
  have a2 := hp.2.2.1
  have hpv : pv.one = true := hp.2.2.2.1.one
  simp +decide (disch := omega) only [c22_g1,execA,opsA,wantedA,evalAll,evalA,oneA,st_mov,st_bin,st_call,st_build,st_buildSl,H.newB,binAV,St.put,Tr.get_put,if_true,if_false,cond_true,nbeq,decide_true,eqK,kindNo,beq_self_eq_true,beq_t,g5,g7,hl]
  generalize hR : callN K2 49 (g t57) _ _ = R
  obtain ⟨x1,p1,j1,rfl,hx1,hj1,hp1⟩ := next2 (n := 3) (by decide) (by decide) hL hR hp.2.1
  by_cases hx : 0 < x1
  · have hb : ltI (.ofNat 0) (.ofNat x1) = true := by rw [b_lt]; exact decide_eq_true hx
    have n0 := names2 (k := 0) (by decide)
    have n1 := names2 (k := 1) (by decide)
    simp +decide (disch := omega) only [st_mov,st_bin,st_call,st_pick,setAt,fillA,cl_int,cl_str,binAV,Tr.get_put,if_true,if_false,cond_true,Nat.zero_add,Bool.and_self,List.length,nbeq,nble,decide_true,Nat.reduceAdd,eqK,kindNo,Option.map_some,g5,hb,n0,n1]
    generalize hR2 : callN K2 49 (g t57) _ _ = R2
    obtain ⟨x2,p2,j2,rfl,hx2,hj2,hp2⟩ := next2 (n := 2) (by decide) (by decide) hL hR2 (DrawAt.self hp1)
    simp +decide (disch := omega) only [st_store,st_fieldAddr,storeA,setAt,fillA,fillS,ones,cl_agg,cl_int,cl_str,on_slc,cl_slc,Tr.get_put,if_true,if_false,cond_true,Nat.zero_add,Nat.zero_mul,Nat.one_mul,up_succ,up_ne,Bool.and_self,List.length,nbeq,nble,decide_true,Nat.reduceAdd,Option.map_some,g6,a2]
    refine ⟨_,j2 + 1 + 1,_,_,rfl,by omega,⟨?_,?_,?_,?_⟩,hp.keep (((DrawAt.self hp2).put (by omega) _).put (by omega) _ |>.put (by omega) _) (by rw [Tr.get_put,if_pos rfl]) (fun i k1 k2 k3 => ?_) hj,
      .inr ⟨j2 + 1,1,some 1,[[.int .i64 0,.slc (up .e j2) 0 2 2 (some 2)]],false,fun i n => i = j2 ∧ n = 2,rfl,rfl,by decide,?_,fun r hr => ?_,fun i n hi => ?_,by omega,fun i n hi => by omega⟩,show 1 ≤ 3 by decide⟩
    any_goals simp +decide (disch := omega) only [Tr.get_put,up_ne,g4,g5,g6,g7,if_true,if_false]
    · rfl
    · rw [List.mem_singleton.1 hr]
      exact ⟨0,_,rfl,.inr ⟨j2,2,_,rfl,by decide,rfl,rfl⟩⟩
    · obtain ⟨rfl,rfl⟩ := hi
      refine ⟨[⟨nmOf 0,1⟩,⟨nmOf 1,.ofNat x2⟩],false,Nat.le_refl 2,?_⟩
      simp +decide (disch := omega) only [if_true]
      rfl
  · have hb : ltI (.ofNat 0) (.ofNat x1) = false := by rw [b_lt]; exact decide_eq_false hx
    simp +decide (disch := omega) only [st_bin,st_pick,binAV,Tr.get_put,if_true,if_false,cond_true,nbeq,decide_true,eqK,kindNo,hb]
    refine ⟨_,j1,_,.nils,rfl,by omega,⟨?_,?_,?_,?_⟩,hp.keep (DrawAt.self hp1) ?_ (fun i k1 k2 k3 => ?_) hj,.inl rfl,show 0 ≤ 3 by decide⟩
    all_goals simp +decide (disch := omega) only [Tr.get_put,up_ne,g4,g5,g6,g7,a2,if_false]
def GX (j0 j : Nat) (t : Tr AB) (gv : AV) : Prop := ∃ (l1 l2 gb x : Nat),gv = .slc (up .e gb) 0 2 2 (some 2) ∧ j0 ≤ l1 ∧ l1 < l2 ∧ l2 < gb ∧ gb < j ∧
  t.get (up .e gb) = some (.cells [.int .i64 1,.slc (up .e l1) 0 2 2 (some 2),.int .i64 1,.slc (up .e l2) 0 2 2 (some 2)] false) ∧
  t.get (up .e l1) = some (.cells [.str (nmOf 0),.int .i64 (.ofNat x),.str (nmOf 1),.int .i64 (.ofNat x)] false) ∧
  t.get (up .e l2) = some (.cells [.str (nmOf 2),.int .i64 (.ofNat x),.str (nmOf 3),.int .i64 (.ofNat x)] false)
theorem GX.gv {j0 j : Nat} {t : Tr AB} {gv : AV} (hj : 3 ≤ j0) (h : GX j0 j t gv) : GV t gv := by
  obtain ⟨l1,l2,gb,x,rfl,h1,h2,h3,h4,k1,k2,k3⟩ := h
  refine .inr ⟨gb,2,some 2,[[.int .i64 1,.slc (up .e l1) 0 2 2 (some 2)],[.int .i64 1,.slc (up .e l2) 0 2 2 (some 2)]],false,fun i n => (i = l1 ∨ i = l2) ∧ n = 2,rfl,rfl,by decide,k1,fun r hr => ?_,fun i n hi => ?_,by omega,fun i n hi => by omega⟩
  · simp only [List.mem_cons,List.not_mem_nil,or_false] at hr
    rcases hr with rfl | rfl
    · exact ⟨1,_,rfl,.inr ⟨l1,2,_,rfl,by decide,.inl rfl,rfl⟩⟩
    · exact ⟨1,_,rfl,.inr ⟨l2,2,_,rfl,by decide,.inr rfl,rfl⟩⟩
  · obtain ⟨rfl | rfl,rfl⟩ := hi
    · exact ⟨[⟨nmOf 0,.ofNat x⟩,⟨nmOf 1,.ofNat x⟩],false,Nat.le_refl 2,k2⟩
    · exact ⟨[⟨nmOf 2,.ofNat x⟩,⟨nmOf 3,.ofNat x⟩],false,Nat.le_refl 2,k3⟩
theorem GX.gl {j0 j : Nat} {t : Tr AB} {gv : AV} (h : GX j0 j t gv) : gl gv ≤ 3 := by
  obtain ⟨l1,l2,gb,x,rfl,_⟩ := h
  exact (show 2 ≤ 3 by decide)
set_option maxHeartbeats 1000000 in
theorem g2_run {nm : List Nat} {L : Sl Int} (hL : L.l.length < 9223372036854775808) {many : Nat} (hm : 4 ≤ many) {pv : AV} {rs : List (List AV)} {nb j0 : Nat} {Et : Nat → Nat → Prop} (hj : 3 ≤ j0) {fr : Tr AV} {t : Tr AB} (hf : FrM fr many) (hp : PadsM nm L many pv rs nb j0 Et .nils t) :
    ∃ fr' j' t' gv,execA K2 (callN K2 49) c22_g2 ⟨fr,[],⟨up .e j0,t,.lf⟩,.no,none,t22⟩ = .nrm ⟨fr',[],⟨up .e j',t',.lf⟩,.no,none,t22⟩ ∧ j0 ≤ j' ∧ FrM fr' many ∧ PadsM nm L many pv rs nb j0 Et gv t' ∧ (gv = .nils ∨ GX j0 j' t' gv) := by
  obtain ⟨g4,g5,g6,g7⟩ := hf
  have hl : leI (.ofNat 4) (.ofNat many) = true := by rw [b_le]; exact decide_eq_true hm
  have a2 := hp.2.2.1
  have hpv : pv.one = true := hp.2.2.2.1.one
  simp +decide (disch := omega) only [c22_g2_p,execA,opsA,wantedA,evalAll,evalA,oneA,st_mov,st_bin,st_call,binAV,St.put,Tr.get_put,if_true,if_false,cond_true,nbeq,decide_true,eqK,kindNo,beq_self_eq_true,beq_t,g5,g7,hl]
  generalize hR : callN K2 49 (g t57) _ _ = R
  obtain ⟨x1,p1,j1,rfl,hx1,hj1,hp1⟩ := next2 (n := 3) (by decide) (by decide) hL hR hp.2.1
  by_cases hx : 0 < x1
  · have hb : ltI (.ofNat 0) (.ofNat x1) = true := by rw [b_lt]; exact decide_eq_true hx
    have n0 := names2 (k := 0) (by decide)
    have n1 := names2 (k := 1) (by decide)
    have n2 := names2 (k := 2) (by decide)
    have n3 := names2 (k := 3) (by decide)
    obtain ⟨x2,p2,j2,hN,hx2,hj2,hp2⟩ := next2 (n := 2) (by decide) (by decide) hL (j := j1) (q := .e) rfl (DrawAt.self (t := t) (d := up .e 1) hp1)
    simp +decide (disch := omega) only [execA,opsA,wantedA,evalAll,evalA,oneA,st_mov,st_store,st_bin,st_call,st_fieldAddr,st_build,st_pick,st_buildSl,H.newB,storeA,setAt,fillA,fillS,ones,cl_agg,cl_int,cl_str,on_slc,cl_slc,binAV,St.put,Tr.get_put,if_true,if_false,cond_true,Nat.zero_add,Nat.zero_mul,Nat.one_mul,up_succ,up_ne,Bool.and_self,List.length,nbeq,nble,decide_true,Nat.reduceAdd,eqK,kindNo,Option.map_some,c22_g2t,hN,g5,g6,hb,n0,n1,n2,n3,a2]
    refine ⟨_,j2 + 1 + 1 + 1,_,_,rfl,by omega,⟨?_,?_,?_,?_⟩,hp.keep (((DrawAt.self hp2).put (by omega) _).put (by omega) _ |>.put (by omega) _ |>.put (by omega) _) (by rw [Tr.get_put,if_pos rfl]) (fun i k1 k2 k3 => ?_) hj,
      .inr ⟨j2,j2 + 1,j2 + 1 + 1,x2,rfl,by omega,by omega,by omega,by omega,?_,?_,?_⟩⟩
    any_goals simp +decide (disch := omega) only [Tr.get_put,up_ne,g4,g5,g6,g7,if_true,if_false]
    all_goals rfl
  · have hb : ltI (.ofNat 0) (.ofNat x1) = false := by rw [b_lt]; exact decide_eq_false hx
    simp +decide (disch := omega) only [st_bin,st_pick,binAV,Tr.get_put,if_true,if_false,cond_true,nbeq,decide_true,eqK,kindNo,hb]
    refine ⟨_,j1,_,.nils,rfl,by omega,⟨?_,?_,?_,?_⟩,hp.keep (DrawAt.self hp1) ?_ (fun i k1 k2 k3 => ?_) hj,.inl rfl⟩
    all_goals simp +decide (disch := omega) only [Tr.get_put,up_ne,g4,g5,g6,g7,a2,if_false]
theorem g3_nil {nm : List Nat} {L : Sl Int} {pv : AV} {rs : List (List AV)} {nb j0 : Nat} {Et : Nat → Nat → Prop} {fr : Tr AV} {j : Nat} {t : Tr AB} (hf : FrM fr 6) (hp : PadsM nm L 6 pv rs nb j0 Et .nils t) :
    ∃ fr',execA K2 (callN K2 49) c22_g3 ⟨fr,[],⟨up .e j,t,.lf⟩,.no,none,t22⟩ = .nrm ⟨fr',[],⟨up .e j,t,.lf⟩,.no,none,t22⟩ ∧ FrM fr' 6 := by
  obtain ⟨g4,g5,g6,g7⟩ := hf
  have a2 := hp.2.2.1
  have hl : eqI (.ofNat 6) (.ofNat 6) = true := rfl
  have h0 : ltI (.ofNat 0) (.ofNat 0) = false := rfl
  simp +decide (disch := omega) only [c22_g3,execA,opsA,wantedA,evalAll,evalA,oneA,st_mov,st_load,st_bin,st_fieldAddr,st_pick,st_len,ld_ptr,H.cellsAt,partA,tk_s,tk_0,tk_c,ln_nils,binAV,eqAV,St.put,Tr.get_put,if_true,if_false,cond_true,cond_false,Nat.zero_add,nbeq,decide_true,eqK,kindNo,Option.map_some,beq_self_eq_true,beq_t,g6,g7,hl,h0,a2]
  refine ⟨_,rfl,?_,?_,?_,?_⟩ <;> simp +decide only [Tr.get_put,g4,g5,g6,g7,if_false]
theorem cont_c (a b : Nat) (l : List Nat) : (a :: l).contains b = (decide (b = a) || l.contains b) := by
  simp only [List.contains_cons]
  by_cases h : b = a <;> simp [h]
theorem cont_n (b : Nat) : ([] : List Nat).contains b = false := rfl
theorem tkP_c (m : List Nat) (p : Pend) (ps : List Pend) : takesP m (p :: ps) = bif m.contains p.at_ then p :: takesP m ps else takesP m ps := by
  simp only [takesP,List.filter]
  cases m.contains p.at_ <;> rfl
theorem lvP_c (m : List Nat) (p : Pend) (ps : List Pend) : leavesP m (p :: ps) = bif m.contains p.at_ then leavesP m ps else p :: leavesP m ps := by
  simp only [leavesP,List.filter]
  cases m.contains p.at_ <;> rfl
theorem withP_c (h : H) (p : Pend) (ps : List Pend) : h.withP (p :: ps) = ({ h with t := h.t.put p.id p.b } : H).withP ps := rfl
theorem app_full {m gb x n sz by_ : Nat} {t : Tr AB} {old row : List AV} {sp sp' : Bool} {A : Option (AV × H)} (hA : appendA ⟨up .e m,t,.lf⟩ sz by_ (.slc (up .e gb) 0 n sz (some n)) (.slc (up .e x) 0 1 sz (some 1)) = A)
    (hg : t.get (up .e gb) = some (.cells old sp)) (ho : old.length = n * sz) (hx : t.get (up .e x) = some (.cells row sp')) (hrow : row.length = sz) (hb : by_ ≤ 1000) (hn : n < 1000000) :
    A = some (.slc (up .e m) 0 (n + 1) sz none,⟨up .e (m + 1),t.put (up .e m) (.cells (old ++ row) true),.lf⟩) := by
  have htk : takeD row 0 sz = some row := takeD_all hrow
  have hto : takeD old 0 (n * sz) = some old := takeD_all ho
  have hbig : (Nat.ble bigBytes ((n + 1) * by_) || Nat.ble bigBytes (n + 1)) = false := by
    have h1 : (n + 1) * by_ ≤ 1000001 * 1000 := Nat.mul_le_mul (by omega) hb
    have hB : 1000001000 < bigBytes := by decide
    have h2 : Nat.ble bigBytes ((n + 1) * by_) = false := by
      rw [nble]; exact decide_eq_false (by omega)
    have h3 : Nat.ble bigBytes (n + 1) = false := by
      rw [nble]; exact decide_eq_false (by omega)
    rw [h2,h3]; rfl
  have hf1 : firstA ⟨up .e m,t,.lf⟩ sz 1 (.slc (up .e x) 0 1 sz (some 1)) = some row := by
    simp only [firstA,nbeq,nble,decide_true,Nat.le_refl,Bool.and_self,cond_true,H.cellsAt,hx,Nat.one_mul,htk]
  have hzz : Nat.beq sz sz = true := by rw [nbeq]; exact decide_eq_true rfl
  have h10 : Nat.beq 1 0 = false := rfl
  have hc : Nat.ble (n + 1) n = false := by rw [nble]; exact decide_eq_false (by omega)
  rw [← hA]
  simp only [appendA,lenA,hf1,hzz,h10,hbig,hc,cond_false,cond_true,H.cellsAt,hg,hto,H.newB,up_succ]
set_option maxHeartbeats 2000000 in
theorem g3_run {nm : List Nat} {L : Sl Int} (hL : L.l.length < 9223372036854775808) {pv gv : AV} {rs : List (List AV)} {nb j0 : Nat} {Et : Nat → Nat → Prop} (hj : 3 ≤ j0) {fr : Tr AV} {j : Nat} {t : Tr AB} (hf : FrM fr 6) (hp : PadsM nm L 6 pv rs nb j0 Et gv t) (hx : GX j0 j t gv) :
    ∃ fr' j' t' gv',execA K2 (callN K2 49) c22_g3 ⟨fr,[],⟨up .e j,t,.lf⟩,.no,none,t22⟩ = .nrm ⟨fr',[],⟨up .e j',t',.lf⟩,.no,none,t22⟩ ∧ FrM fr' 6 ∧ PadsM nm L 6 pv rs nb j0 Et gv' t' ∧ GV t' gv' ∧ gl gv' ≤ 3 := by
  have hx' := hx
  obtain ⟨g4,g5,g6,g7⟩ := hf
  have a2 := hp.2.2.1
  have hpv : pv.one = true := hp.2.2.2.1.one
  obtain ⟨l1,l2,gb,x,rfl,h1,h2,h3,h4,k1,k2,k3⟩ := hx
  have hl : eqI (.ofNat 6) (.ofNat 6) = true := rfl
  have h0 : ltI (.ofNat 0) (.ofNat 2) = true := rfl
  simp +decide (disch := omega) only [c22_g3_p,execA,opsA,wantedA,evalAll,evalA,oneA,st_mov,st_load,st_bin,st_call,st_fieldAddr,st_pick,st_len,ld_ptr,H.cellsAt,partA,tk_s,tk_0,tk_c,ln_slc,binAV,eqAV,St.put,Tr.get_put,if_true,if_false,cond_true,Nat.zero_add,nbeq,decide_true,eqK,kindNo,Option.map_some,beq_self_eq_true,beq_t,g5,g6,g7,hl,h0,a2]
  generalize hR : callN K2 49 (g t57) _ _ = R
  obtain ⟨x1,p1,j1,rfl,hx1,hj1,hp1⟩ := next2 (n := 2) (by decide) (by decide) hL hR hp.2.1
  have hGX : ∀ t' : Tr AB,(∀ i,j0 ≤ i → i < j → t'.get (up .e i) = t.get (up .e i)) → GX j0 j t' (.slc (up .e gb) 0 2 2 (some 2)) := fun t' h => ⟨l1,l2,gb,x,rfl,h1,h2,h3,h4,(h gb (by omega) h4).trans k1,(h l1 (by omega) (by omega)).trans k2,(h l2 (by omega) (by omega)).trans k3⟩
  have hx01 : x1 = 0 ∨ x1 = 1 := by omega
  rcases hx01 with rfl | rfl
  · have hb : eqI (.ofNat 0) (.ofNat 1) = false := rfl
    simp +decide (disch := omega) only [st_bin,st_pick,binAV,eqAV,Tr.get_put,if_true,if_false,cond_true,nbeq,decide_true,eqK,kindNo,Option.map_some,hb]
    refine ⟨_,j1,_,_,rfl,⟨?_,?_,?_,?_⟩,hp.keep (DrawAt.self hp1) ?_ (fun i k1 k2 k3 => ?_) hj,(hGX _ (fun i h1 h2 => ?_)).gv hj,show 2 ≤ 3 by decide⟩
    all_goals simp +decide (disch := omega) only [Tr.get_put,up_ne,g4,g5,g6,g7,a2,if_false]
  · have hb : eqI (.ofNat 1) (.ofNat 1) = true := rfl
    have n5 := names2 (k := 5) (by decide)
    have n4 := names2 (k := 4) (by decide)
    have hi0 : ∀ id c,indexAddrA (.slc 2) (.slc id 0 2 2 c) i0 = some (.ptr id 0) := fun _ _ => rfl
    have hi1 : ∀ id c,indexAddrA (.slc 2) (.slc id 0 2 2 c) i1 = some (.ptr id 2) := fun _ _ => rfl
    obtain ⟨x3,p3,j3,hN,hx3,hj3,hp3⟩ := next2 (n := 3) (by decide) (by decide) hL (j := j1 + 30) (q := .e) rfl (DrawAt.self (t := t) (d := up .e 1) hp1)
    simp +decide (maxSteps := 3000000) (disch := omega) only [execA,wantedA,evalAll,evalA,oneA,dregA,dopsA,dstep,isMaker,withP_nil,takesP_nil,leavesP_nil,rd_mov,rd_build,rd_load,rd_fieldp,rd_indexAddr,st_mov,st_load,st_bin,st_call,st_fieldAddr,st_indexAddr,st_build,st_pick,st_buildSl,st_append,mk_buildSl,ld_ptr,H.cellsAt,H.newB,partA,tk_s,tk_0,tk_c,setAt,fillA,fillS,cl_agg,cl_int,cl_str,cl_slc,binAV,eqAV,St.put,Tr.get_put,if_true,if_false,cond_true,cond_false,Nat.zero_add,Nat.zero_mul,Nat.one_mul,skip_up0,up_up,up_succ,up_ne,beq_rfl,Bool.and_self,List.length,seesHeap,quiet,recheck,nbeq,nble,decide_true,decide_false,Nat.reduceAdd,Bool.true_and,Bool.and_true,Bool.false_and,Bool.or_false,Bool.or_true,List.all,eqK,kindNo,Option.map_some,c22_g3t,cont_c,cont_n,tkP_c,lvP_c,withP_c,Nat.add_assoc,hN,hi0,hi1,n4,n5,g5,g6,hb,a2,k1,k2]
    generalize hA : appendA _ 2 32 _ _ = A
    have hA' := app_full hA (old := [.int .i64 1,.slc (up .e l1) 0 2 2 (some 2),.int .i64 1,.slc (up .e l2) 0 2 2 (some 2)]) (sp := false) (row := [.int .i64 (.ofNat x3),.slc (up .e (j1 + 24)) 0 2 2 (some 2)]) (sp' := false)
      (by simp +decide (disch := omega) only [Tr.get_put,up_ne,k1,if_false]) rfl (by simp +decide (disch := omega) only [Tr.get_put,up_ne,if_true,if_false]) rfl (by decide) (by decide)
    subst hA'
    simp +decide (maxSteps := 3000000) (disch := omega) only [withP_nil,takesP_nil,leavesP_nil,rd_load,rd_fieldp,st_store,ld_ptr,H.cellsAt,partA,tk_s,tk_0,tk_c,storeA,setAt,ones,on_slc,cl_slc,Tr.get_put,List.nil_append,List.cons_append,if_true,if_false,cond_true,cond_false,Nat.zero_add,up_ne,beq_rfl,Bool.and_self,List.length,recheck,nbeq,nble,decide_true,decide_false,Nat.reduceAdd,Nat.reduceLeDiff,Bool.and_false,List.all,Option.map_some,g6,a2,k1,k2]
    refine ⟨_,j3 + 1,_,_,rfl,⟨?_,?_,?_,?_⟩,hp.keep ⟨p3,hp3,?_⟩ (by rw [Tr.get_put,if_pos rfl]) (fun i k1 k2 k3 => ?_) hj,
      .inr ⟨j3,3,none,[[.int .i64 1,.slc (up .e l1) 0 2 2 (some 2)],[.int .i64 1,.slc (up .e l2) 0 2 2 (some 2)],[.int .i64 (.ofNat x3),.slc (up .e (j1 + 24)) 0 2 2 (some 2)]],true,fun i n => (i = l1 ∨ i = l2 ∨ i = j1 + 24) ∧ n = 2,rfl,rfl,by decide,?_,fun r hr => ?_,fun i n hi => ?_,by omega,fun i n hi => by omega⟩,Nat.le_refl 3⟩
    any_goals simp +decide (disch := omega) only [Tr.get_put,up_ne,g4,g5,g6,g7,if_true,if_false]
    · rfl
    · simp only [List.mem_cons,List.not_mem_nil,or_false] at hr
      rcases hr with rfl | rfl | rfl
      · exact ⟨1,_,rfl,.inr ⟨l1,2,_,rfl,by decide,.inl rfl,rfl⟩⟩
      · exact ⟨1,_,rfl,.inr ⟨l2,2,_,rfl,by decide,.inr (.inl rfl),rfl⟩⟩
      · exact ⟨.ofNat x3,_,rfl,.inr ⟨j1 + 24,2,_,rfl,by decide,.inr (.inr rfl),rfl⟩⟩
    · obtain ⟨rfl | rfl | rfl,rfl⟩ := hi
      · refine ⟨[⟨nmOf 0,.ofNat x⟩,⟨nmOf 1,.ofNat x⟩],false,Nat.le_refl 2,?_⟩
        simp +decide (disch := omega) only [up_ne,if_false]
        exact k2
      · refine ⟨[⟨nmOf 2,.ofNat x⟩,⟨nmOf 3,.ofNat x⟩],false,Nat.le_refl 2,?_⟩
        simp +decide (disch := omega) only [up_ne,if_false]
        exact k3
      · refine ⟨[⟨nmOf 5,.ofNat x⟩,⟨nmOf 4,.ofNat x⟩],false,Nat.le_refl 2,?_⟩
        simp +decide (disch := omega) only [if_true]
        rfl
end Go.Abs.Sym
end
section
namespace Go.Abs.Sym
open Go.Abs.T
open Go.Proofs
theorem kf2 : K2.fuel = 100000 := rfl
theorem deep_slc {d : Nat} {h : H} {id : Pth} {off len sz : Nat} {c : Option Nat} {cs l : List AV} (h1 : h.cellsAt id = some cs) (h2 : takeD cs off (len * sz) = some l) : deep (d + 1) h (.slc id off len sz c) = .rslc len (l.map (deep d h)) := by
  simp only [Abs.deep,h1,h2]
theorem deep_agg (d : Nat) (h : H) (cs : List AV) : deep (d + 1) h (.agg cs) = .agg (cs.map (deep d h)) := rfl
theorem cellsAt_t {nx : Pth} {t : Tr AB} {id : Pth} {cs : List AV} {sp : Bool} (h : t.get id = some (.cells cs sp)) : H.cellsAt ⟨nx,t,.lf⟩ id = some cs := by
  simp only [H.cellsAt,h]
theorem pads_deep {t : Tr AB} {nx : Pth} {lo hi nb : Nat} {pv : AV} {rs : List (List AV)} {Et : Nat → Nat → Prop} (hgr : Grow 7 t lo hi nb pv rs) (hr : ∀ r ∈ rs,PadR Et r) (hT : Typed edC Et t) :
    ∃ ps : Sl PadD,ps.l.length = rs.length ∧ (∀ p ∈ ps.l,p.es.l.length < 90000) ∧ deep 7 ⟨nx,t,.lf⟩ pv = slV padC ps := by
  obtain ⟨ps,h1,h2,h3⟩ := rows_deep (f := padC) (B := fun p => p.es.l.length < 90000) (fun r h => PadR.deep (nx := nx) hT h 5) rs hr
  rcases hgr with ⟨rfl,rfl,_⟩ | ⟨h4,rfl,h5,_⟩
  · exact ⟨⟨0,[]⟩,rfl,fun _ h => absurd h List.not_mem_nil,rfl⟩
  · have htk : takeD rs.flatten 0 (rs.length * 7) = some rs.flatten := takeD_all (rows_len (fun _ h => h.len) rs hr)
    refine ⟨⟨1,ps⟩,h1,h2,?_⟩
    rw [deep_slc (cellsAt_t h5) htk,h3,slV_rslc,h1]
theorem gates_deep' {t : Tr AB} {nx : Pth} {gv : AV} (hg : GV t gv) : ∃ gs : Sl GateD,gs.l.length = gl gv ∧ gs.l.length < 90000 ∧ (∀ g ∈ gs.l,g.legs.l.length < 90000) ∧ deep 7 ⟨nx,t,.lf⟩ gv = slV gateC gs := by
  rcases hg with rfl | ⟨gb,n,c,rs',sp,Lt,rfl,k1,k2,k3,k4,k5,_⟩
  · exact ⟨⟨0,[]⟩,rfl,by decide,fun _ h => absurd h List.not_mem_nil,rfl⟩
  · obtain ⟨gs,q1,q2,q3⟩ := rows_deep (f := gateC) (B := fun p => p.legs.l.length < 90000) (fun r h => GateR.deep (nx := nx) k5 h 5) rs' k4
    have htk : takeD rs'.flatten 0 (n * 2) = some rs'.flatten := takeD_all (by rw [rows_len (fun _ h => h.len) rs' k4,k1])
    refine ⟨⟨1,gs⟩,by show gs.length = n; omega,by show gs.length < 90000; omega,q2,?_⟩
    rw [deep_slc (cellsAt_t k3) htk,q3,slV_rslc,q1,k1]
theorem gates_deep {t : Tr AB} {nx : Pth} {gv : AV} (hg : GV t gv) : ∃ gs : Sl GateD,gs.l.length < 90000 ∧ (∀ g ∈ gs.l,g.legs.l.length < 90000) ∧ deep 7 ⟨nx,t,.lf⟩ gv = slV gateC gs := by
  obtain ⟨gs,_,h⟩ := gates_deep' (nx := nx) hg
  exact ⟨gs,h⟩
theorem GV.putL {t : Tr AB} {gv : AV} (h : GV t gv) {i : Nat} (hi : i < 3) (x : AB) : GV (t.put (up .e i) x) gv := by
  rcases h with h | ⟨gb,n,c,rs',sp,Lt,h1,k1,k2,k3,k4,k5,k6,k7⟩
  · exact .inl h
  · refine .inr ⟨gb,n,c,rs',sp,Lt,h1,k1,k2,?_,k4,k5.put (fun i n h => by have := k7 i n h; omega) x,k6,k7⟩
    rw [Tr.get_put,if_neg (fun e => by rw [up_inj] at e; omega)]
    exact k3
theorem GV.put0 {t : Tr AB} {gv : AV} (h : GV t gv) (x : AB) : GV (t.put (up .e 0) x) gv := h.putL (by decide) x
theorem made_rest {nm : List Nat} {L : Sl Int} (hL : L.l.length < 9223372036854775808) {many : Nat} (hm : many ≤ 6) (h0m : 0 < many) {s : St} (h : MadeI nm L many 0 s) : ∃ v s',execA K2 (callN K2 49) c22_rest s = .ret s' ∧ s'.df = [] ∧ resultA s'.h s'.fr [.cell t4 (some 3)] = some v ∧ ∃ T : TypD,T.nm = nm ∧ T.pads.l.length = many ∧ T.gates.l.length ≤ 3 ∧ Small T ∧ deep 8 s'.h v = .agg (tyC T) := by
  obtain ⟨fr,j,t,nb,pv,rs,Et,rfl,hj,hk,g4,g5,g6,g7,g8,a0,ad,a2,hg,hr,hT,hE⟩ := h.ex
  have hp : PadsM nm L many pv rs nb j Et .nils t := ⟨a0,ad,a2,hg,by omega,hr,hT,hE⟩
  have hf : FrM fr many := ⟨g4,g5,g6,g7⟩
  have hgo : ∃ fr' j' t' gv,execA K2 (callN K2 49) c22_rest ⟨fr,[],⟨up .e j,t,.lf⟩,.no,none,t22⟩ = execA K2 (callN K2 49) (.seq (.reg [⟨s178,.load (some 3),[v6],none⟩,⟨none,.store 3,[v4,v178],none⟩]) .ret) ⟨fr',[],⟨up .e j',t',.lf⟩,.no,none,t22⟩ ∧ FrM fr' many ∧ PadsM nm L many pv rs nb j Et gv t' ∧ GV t' gv ∧ gl gv ≤ 3 := by
    by_cases h4 : many < 4
    · obtain ⟨fr1,j1,t1,gv,e1,_,f1,p1,q1⟩ := g1_run hL h4 hj hf hp
      obtain ⟨fr2,e2,f2⟩ := g2_skip h4 (h := ⟨up .e j1,t1,.lf⟩) f1
      obtain ⟨fr3,e3,f3⟩ := g3_skip (by omega) (h := ⟨up .e j1,t1,.lf⟩) f2
      refine ⟨fr3,j1,t1,gv,?_,f3,p1,q1⟩
      rw [c22_rest]
      simp only [execA,e1,e2,e3]
    · obtain ⟨fr1,e1,f1⟩ := g1_skip (by omega) (h := ⟨up .e j,t,.lf⟩) hf
      obtain ⟨fr2,j2,t2,gv,e2,hj2,f2,p2,q2⟩ := g2_run hL (by omega) hj f1 hp
      by_cases h6 : many = 6
      · subst h6
        rcases q2 with rfl | q2
        · obtain ⟨fr3,e3,f3⟩ := g3_nil (j := j2) f2 p2
          refine ⟨fr3,j2,t2,.nils,?_,f3,p2,.inl rfl,show 0 ≤ 3 by decide⟩
          rw [c22_rest]
          simp only [execA,e1,e2,e3]
        · obtain ⟨fr3,j3,t3,gv',e3,f3,p3,q3⟩ := g3_run hL hj f2 p2 q2
          refine ⟨fr3,j3,t3,gv',?_,f3,p3,q3⟩
          rw [c22_rest]
          simp only [execA,e1,e2,e3]
      · obtain ⟨fr3,e3,f3⟩ := g3_skip h6 (h := ⟨up .e j2,t2,.lf⟩) f2
        refine ⟨fr3,j2,t2,gv,?_,f3,p2,?_⟩
        · rw [c22_rest]
          simp only [execA,e1,e2,e3]
        · rcases q2 with rfl | q2
          · exact ⟨.inl rfl,show 0 ≤ 3 by decide⟩
          · exact ⟨GX.gv hj q2,q2.gl⟩
  obtain ⟨fr',j',t',gv,he,⟨f4,f5,f6,f7⟩,hp',hgv,hg3⟩ := hgo
  obtain ⟨b0,bd,b2,bg,bn,br,bT,bE⟩ := hp'
  have hpv : pv.one = true := bg.one
  have hgo : gv.one = true := by
    rcases hgv with rfl | ⟨_,_,_,_,_,_,rfl,_⟩ <;> rfl
  rw [he]
  simp +decide (disch := omega) only [execA,opsA,wantedA,evalAll,evalA,oneA,st_load,st_store,ld_ptr,H.cellsAt,partA,tk_0,tk_c,storeA,setAt,ones,cl_agg,on_str,St.put,Tr.get_put,if_true,if_false,cond_true,Nat.zero_add,Bool.and_self,List.length,nbeq,decide_true,Nat.reduceAdd,resultA,resultsA,Option.map_some,f4,f6,b0,b2,hpv,hgo]
  obtain ⟨ps,h1,h2,h3⟩ := pads_deep (nx := up .e j') (t := t'.put (up .e 0) (.cells [.str nm,pv,gv] false)) (bg.keep (Nat.le_refl _) (fun k1 k2 => by
    rw [Tr.get_put,if_neg (fun e => by rw [up_inj] at e; omega)])) br (bT.put (fun i n h => by have := bE i n h; omega) _)
  obtain ⟨gs,q0,q1,q2,q3⟩ := gates_deep' (nx := up .e j') (hgv.put0 (.cells [.str nm,pv,gv] false))
  refine ⟨.agg [.str nm,pv,gv],_,rfl,rfl,?_,⟨nm,ps,gs⟩,rfl,by show ps.l.length = many; omega,by show gs.l.length ≤ 3; omega,⟨by show ps.l.length < 90000; omega,q1,h2,q2⟩,?_⟩
  · simp +decide (disch := omega) only [ld_ptr,H.cellsAt,partA,tk_0,tk_c,Tr.get_put,if_true,if_false,Option.map_some,f4]
  · rw [deep_agg]
    simp only [List.map_cons,List.map_nil,h3,q3]
    rfl
theorem made22 (L : Sl Int) (hL : L.l.length < 9223372036854775808) (nm : List Nat) : Ret (callN K2 50 (.fn t22 [] []) [slV inC L,.str nm] h0) (fun v h1 => ∃ T : TypD,T.nm = nm ∧ 2 ≤ T.pads.l.length ∧ T.pads.l.length ≤ 6 ∧ T.gates.l.length ≤ 3 ∧ Small T ∧ deep 8 h1 v = .agg (tyC T)) := by
  have hs : ∀ xs,K2.sums t22 xs h0 = none := fun _ => rfl
  have hF : K2.funcs.get t22 = some c22 := rfl
  refine begin2 (hs _) hF fun fr t ga gb => ?_
  rw [c22_eq]
  simp +decide (disch := omega) only [execA,opsA,wantedA,evalAll,evalA,oneA,st_mov,st_alloc,st_box,st_store,st_call,st_build,H.newB,storeA,setAt,fillA,ones,cl_agg,on_str,cl_str,on_nils,cl_slV,St.put,Tr.get_put,if_true,if_false,cond_true,Nat.zero_add,up_succ,Bool.and_self,List.length,nbeq,nble,decide_true,Nat.reduceAdd,Option.map_some,ga,gb]
  have hd0 : DrawAt ((((t.put (up .e 0) (.cells [e0,.nils,.nils] false)).put (up .e 1) (.cells [slV inC L,i0] false)).put (up .e 2) (.cells [e0,.nils,.nils] false)).put (up .e 2) (.cells [.str nm,.nils,.nils] false)) (up .e 1) L := by
    refine ⟨0,Nat.zero_le _,?_⟩
    simp +decide (disch := omega) only [Tr.get_put,if_true,if_false]
  generalize hR : callN K2 49 (g t57) _ _ = R
  obtain ⟨x,p,j,rfl,hx,hj,hp⟩ := next2 (n := 5) (by decide) (by decide) hL hR hd0
  have hw := wr_add 2 x (by omega)
  simp +decide (disch := omega) only [st_mov,st_bin,binAV,Tr.get_put,if_true,if_false,cond_true,nbeq,decide_true,eqK,kindNo,hw,kf2]
  generalize hit : iterA (execA K2 (callN K2 49) c22_l0) 100000 _ = o
  have ho : MadeQ nm L (2 + x) o := by
    rw [← hit]
    refine iter_rule (MadeI nm L (2 + x)) (MadeQ nm L (2 + x)) (fun m s h => made_round nm L hL (by omega) m s h) 100000 (2 + x) _ ⟨_,j,_,0,.nils,[],fun _ _ => False,rfl,by omega,by simp,?_,?_,?_,?_,?_,?_,DrawAt.self hp,?_,.inl ⟨rfl,rfl,rfl⟩,fun _ h => absurd h List.not_mem_nil,fun _ _ h => h.elim,fun _ _ h => h.elim⟩ (by omega)
    all_goals simp +decide (disch := omega) only [Tr.get_put,if_true,if_false,List.length_nil]
  obtain ⟨s,rfl,hs⟩ := ho
  obtain ⟨v,s',e1,e2,e3,T,k1,k2,k2',k3,k4⟩ := made_rest hL (by omega) (by omega) hs
  obtain ⟨fr',df,h,rc,rd,fn⟩ := s'
  simp only at e2 e3 k4
  subst e2
  simp +decide only [decide_true,cond_true,e1]
  exact ⟨v,h,leave_r e3,T,k1,by omega,by omega,k2',k3,k4⟩
end Go.Abs.Sym
end
section
namespace Go.Abs.Sym
open Go.Abs.T
open Go.Proofs
theorem made22_sum (L : Sl Int) (hL : L.l.length < 9223372036854775808) (nm : List Nat) : ∃ T : TypD,T.nm = nm ∧ 2 ≤ T.pads.l.length ∧ T.pads.l.length ≤ 6 ∧ T.gates.l.length ≤ 3 ∧ Small T ∧ ∀ h,K3.sums t22 [slV inC L,.str nm] h = some (.agg (tyC T)) := by
  obtain ⟨v,h1,hc,T,k1,k2,k3,k4,k5,hd⟩ := made22 L hL nm
  refine ⟨T,k1,k2,k3,k4,k5,fun h => ?_⟩
  have := over_fz (fz := [t34,t37,t22,t23,t7,t6,t8]) (dp := []) rfl hc (by simp only [frzs,frz_slV frz_in,frz,Bool.and_self]) (by rw [hd]; simp only [frz,frz_ty]) h
  rw [hd] at this
  exact this
def StrR (r : List AV) : Prop := ∃ s,r = [.str s]
theorem StrR.len {r : List AV} (h : StrR r) : r.length = 1 := by
  obtain ⟨s,rfl⟩ := h
  rfl
theorem str_deep {d : Nat} {h : H} : ∀ rs : List (List AV),(∀ r ∈ rs,StrR r) → frzs (rs.flatten.map (deep d h)) = true
  | [],_ => rfl
  | r :: rs,hr => by
    obtain ⟨s,rfl⟩ := hr r List.mem_cons_self
    rw [List.flatten_cons,List.map_append,frzs_append,str_deep rs (fun x hx => hr x (List.mem_cons_of_mem _ hx))]
    cases d <;> rfl
theorem NetsI_deep {t : Tr AB} {nx : Pth} {lo hi nb : Nat} {pv : AV} {rs : List (List AV)} (hg : Grow 1 t lo hi nb pv rs) (hr : ∀ r ∈ rs,StrR r) : frz (deep 8 ⟨nx,t,.lf⟩ pv) = true := by
  rcases hg with ⟨_,rfl,_⟩ | ⟨_,rfl,h5,_⟩
  · rfl
  · have htk : takeD rs.flatten 0 (rs.length * 1) = some rs.flatten := takeD_all (rows_len (fun _ h => h.len) rs hr)
    rw [deep_slc (cellsAt_t h5) htk]
    exact str_deep rs hr
def NetsI (T : TypD) (L : Sl Int) (m : Nat) (s : St) : Prop :=
  ∃ fr j t nb pv rs,s = ⟨fr,[],⟨up .e j,t,.lf⟩,.no,none,t23⟩ ∧ 2 ≤ j ∧ rs.length + m = T.pads.l.length ∧
    fr.get t2 = some (.ptr (up .e 0) 0) ∧ fr.get t5 = some (.ptr (up .e 1) 0) ∧ fr.get t6 = some pv ∧ fr.get t7 = some (.int .i64 (.ofNat rs.length)) ∧
    t.get (up .e 0) = some (.cells [.str T.nm,slV padC T.pads,slV gateC T.gates] false) ∧ DrawAt t (up .e 1) L ∧ Grow 1 t 2 j nb pv rs ∧ (∀ r ∈ rs,StrR r)
set_option maxHeartbeats 1000000 in
theorem nets_round (T : TypD) (hT : T.pads.l.length < 90000) (L : Sl Int) (hL : L.l.length < 9223372036854775808) (m : Nat) (s : St) (h : NetsI T L m s) :
    Stp (NetsI T L) (fun o => ∃ s,o = .exit 0 s ∧ NetsI T L 0 s) m (execA K2 (callN K2 49) c23_l0 s) := by
  have h' := h
  obtain ⟨fr,j,t,nb,pv,rs,rfl,hj,hk,g2,g5,g6,g7,a0,ad,hg,hr⟩ := h
  have hnb : nb < j := by
    rcases hg with ⟨_,_,h⟩ | ⟨_,_,_,_,h⟩ <;> omega
  cases m with
  | zero =>
    have hkn : (rs.length < T.pads.l.length) = False := eq_false (by omega)
    simp +decide (disch := omega) only [c23_l0,execA,opsA,wantedA,evalAll,evalA,oneA,st_mov,st_load,st_bin,st_fieldAddr,st_len,ld_ptr,H.cellsAt,partA,tk_s,tk_0,tk_c,binAV,St.put,Tr.get_put,if_true,if_false,cond_true,Nat.zero_add,nbeq,decide_true,decide_false,eqK,kindNo,Option.map_some,g2,g7,a0,len_slV,ltI_dec,hkn,stp_e]
    refine ⟨_,rfl,_,j,t,nb,pv,rs,rfl,hj,hk,?_,?_,?_,?_,a0,ad,hg,hr⟩
    all_goals simp +decide only [Tr.get_put,g2,g5,g6,g7,if_false]
  | succ m =>
    have hkn : (rs.length < T.pads.l.length) = True := eq_true (by omega)
    have hw := wr_add rs.length 1 (by omega)
    obtain ⟨x,p,j1,hN,hx,hj1,hp⟩ := next2 (n := 5) (by decide) (by decide) hL (j := j + 1) (q := .e) rfl (ad.put (i := 1) (j := j) (by omega) (.cells [.str [97],.str [98],.str [99],.str [100],e0] false))
    have hs : ∃ st,x < 5 ∧ indexAddrA (.slc 1) (.slc (up .e j) 0 5 1 (some 5)) (.int .i64 (.ofNat x)) = some (.ptr (up .e j) x) ∧ takeD [.str [97],.str [98],.str [99],.str [100],e0] x 1 = some [.str st] := by
      match x,hx with
      | 0,_ => exact ⟨[97],by decide,rfl,rfl⟩
      | 1,_ => exact ⟨[98],by decide,rfl,rfl⟩
      | 2,_ => exact ⟨[99],by decide,rfl,rfl⟩
      | 3,_ => exact ⟨[100],by decide,rfl,rfl⟩
      | 4,_ => exact ⟨[],by decide,rfl,rfl⟩
    obtain ⟨st,_,hi,hp'⟩ := hs
    simp +decide (disch := omega) only [c23_l0,execA,opsA,wantedA,evalAll,evalA,oneA,st_mov,st_load,st_bin,st_call,st_fieldAddr,st_indexAddr,st_len,st_buildSl,st_append,ld_ptr,H.cellsAt,H.newB,partA,tk_s,tk_0,tk_c,setAt,fillS,cl_str,binAV,St.put,Tr.get_put,if_true,if_false,cond_true,Nat.zero_add,Nat.zero_mul,Nat.one_mul,up_succ,up_ne,Bool.and_self,List.length,nbeq,nble,decide_true,Nat.reduceAdd,Nat.reduceMul,eqK,kindNo,Option.map_some,g2,g5,g6,g7,a0,len_slV,ltI_dec,hkn,hN,hi,hp']
    generalize hA : appendA _ 1 16 _ _ = A
    obtain ⟨t2,rfl,b1,b2,b3⟩ := Grow.append (hg.keep (hi' := j1 + 1) (by omega) (fun _ _ => by simp +decide (disch := omega) only [Tr.get_put,up_ne,if_false])) hA (sp := false)
      (by rw [Tr.get_put,if_pos rfl]) rfl rfl (fun r h => (hr r h).len) (by decide) (by omega) (by omega)
    have q0 := (b2 0 (by omega) (fun _ _ => by omega)).trans (by simp +decide (disch := omega) only [Tr.get_put,up_ne,if_false]; exact a0)
    have q1 : DrawAt t2 (up .e 1) L := by
      refine ⟨p,hp,(b2 1 (by omega) (fun _ _ => by omega)).trans ?_⟩
      simp +decide (disch := omega) only [Tr.get_put,up_ne,if_true,if_false]
    simp +decide (disch := omega) only [st_mov,st_bin,binAV,Tr.get_put,if_true,if_false,cond_true,nbeq,decide_true,eqK,kindNo,g7,hw,stp_n]
    refine ⟨m,by omega,_,_,_,_,_,_,rfl,by omega,?_,?_,?_,?_,?_,q0,q1,b3,fun r h => ?_⟩
    · rw [List.length_append]; simp only [List.length_cons,List.length_nil]; omega
    any_goals simp +decide (disch := omega) only [Tr.get_put,g2,g5,List.length_append,List.length_cons,List.length_nil,if_true,if_false,Nat.zero_add]
    rcases List.mem_append.1 h with h | h
    · exact hr r h
    · rw [List.mem_singleton.1 h]; exact ⟨_,rfl⟩
theorem nets23 (T : TypD) (hT : T.pads.l.length < 90000) (L : Sl Int) (hL : L.l.length < 9223372036854775808) : Ret (callN K2 50 (.fn t23 [] []) [.agg (tyC T),slV inC L] h0) (fun v h1 => frz (deep 8 h1 v) = true) := by
  have hs : ∀ xs,K2.sums t23 xs h0 = none := fun _ => rfl
  have hF : K2.funcs.get t23 = some c23 := rfl
  refine begin2 (hs _) hF fun fr t ga gb => ?_
  rw [c23_eq]
  simp only [tyC] at ga
  simp +decide (disch := omega) only [execA,opsA,wantedA,evalAll,evalA,oneA,st_mov,st_box,st_build,H.newB,setAt,fillA,cl_agg,cl_slV,St.put,Tr.get_put,if_true,if_false,cond_true,Nat.zero_add,up_succ,Bool.and_self,List.length,nbeq,nble,decide_true,Nat.reduceAdd,Option.map_some,ga,gb,kf2]
  generalize hit : iterA (execA K2 (callN K2 49) c23_l0) 100000 _ = o
  have ho : ∃ s,o = .exit 0 s ∧ NetsI T L 0 s := by
    rw [← hit]
    refine iter_rule (NetsI T L) (fun o => ∃ s,o = .exit 0 s ∧ NetsI T L 0 s) (fun m s h => nets_round T hT L hL m s h) 100000 T.pads.l.length _ ⟨_,2,_,0,.nils,[],rfl,by omega,by simp,?_,?_,?_,?_,?_,⟨0,Nat.zero_le _,?_⟩,.inl ⟨rfl,rfl,rfl⟩,fun _ h => absurd h List.not_mem_nil⟩ (by omega)
    all_goals simp +decide (disch := omega) only [Tr.get_put,if_true,if_false,List.length_nil]
  obtain ⟨s,rfl,hs⟩ := ho
  obtain ⟨fr,j,t,nb,pv,rs,rfl,hj,hk,g2,g5,g6,g7,a0,ad,hg,hr⟩ := hs
  simp +decide (disch := omega) only [st_mov,Tr.get_put,if_true,if_false,cond_true,decide_true,ret_iff,leaveA,dfrsA,resultA,resultsA,g6]
  exact NetsI_deep hg hr
theorem nets23_sum (T : TypD) (hT : T.pads.l.length < 90000) (L : Sl Int) (hL : L.l.length < 9223372036854775808) : ∃ v,frz v = true ∧ ∀ h,K3.sums t23 [.agg (tyC T),slV inC L] h = some v := by
  obtain ⟨v,h1,hc,hf⟩ := nets23 T hT L hL
  exact ⟨deep 8 h1 v,hf,fun h => over_fz (fz := [t34,t37,t22,t23,t7,t6,t8]) (dp := []) rfl hc (by simp only [frzs,frz_slV frz_in,frz,frz_ty,Bool.and_self]) hf h⟩
end Go.Abs.Sym
end
section
namespace Go.Abs.Sym
open Go.Abs.T
open Go.Proofs
theorem min_nat (a b : Nat) : foldA min2A (.int .i64 (.ofNat a)) [.int .i64 (.ofNat b)] = some (.int .i64 (.ofNat (min a b))) := by
  simp only [foldA,min2A,b_lt]
  by_cases h : b < a
  · rw [decide_eq_true h,Nat.min_eq_right (by omega)]; rfl
  · rw [decide_eq_false h,Nat.min_eq_left (by omega)]; rfl
theorem natIn_le {m n : Nat} (h : m ≤ n) : natIn (.ofNat m) n = some m := by
  have h1 : leI 0 (.ofNat m) = true := rfl
  simp only [natIn,h1,b_le,decide_eq_true h,Bool.and_self,cond_true,Int.toNat]
theorem slice_str {s : List Nat} {m : Nat} (h : m ≤ s.length) : sliceA .str false true false [.str s,.int .i64 (.ofNat m)] = some (.str (s.take m)) := by
  simp only [sliceA,bounds,Option.getD_none,natIn_le h,List.drop_zero,Nat.sub_zero]
theorem slice_slV {α : Type} {f : α → List AV} {sz : Nat} (hf : ∀ a,(f a).length = sz) {s : Sl α} {m : Nat} (h : m ≤ s.l.length) : ∃ s' : Sl α,s'.l = s.l.take m ∧ sliceA (.slc sz) false true false [slV f s,.int .i64 (.ofNat m)] = some (slV f s') := by
  obtain ⟨kd,l⟩ := s
  cases l with
  | nil =>
    simp only [List.length_nil] at h
    obtain rfl : m = 0 := by omega
    match kd with
    | 0 => exact ⟨⟨0,[]⟩,rfl,rfl⟩
    | k + 1 => exact ⟨⟨1,[]⟩,rfl,by show sliceA (.slc sz) false true false [.rslc 0 [],_] = some (.rslc 0 []); simp only [sliceA,bounds,natIn_le (Nat.le_refl 0),Option.getD_none,Nat.zero_mul,Nat.sub_zero,List.drop_zero,List.take_zero]⟩
  | cons a l =>
    refine ⟨⟨1,(a :: l).take m⟩,rfl,?_⟩
    have hm : m ≤ l.length + 1 := h
    show sliceA (.slc sz) false true false [.rslc (l.length + 1) (f a ++ l.flatMap f),_] = _
    simp only [sliceA,bounds,Option.getD_none,natIn_le hm,Nat.zero_mul,Nat.sub_zero,List.drop_zero]
    rw [slV_rslc,show f a ++ l.flatMap f = (a :: l).flatMap f from rfl,take_flat hf]
    congr 2
    rw [List.length_take]
    simp only [List.length_cons]
    omega
theorem Grow.lt {sz : Nat} {t : Tr AB} {lo hi nb : Nat} {pv : AV} {rs : List (List AV)} (h : Grow sz t lo hi nb pv rs) : nb < hi ∨ nb = 0 := by
  rcases h with ⟨_,_,h⟩ | ⟨_,_,_,_,h⟩
  · exact .inr h
  · exact .inl h
def bnd (n : Nat) : Nat := min n 5
theorem bnd_def (n : Nat) : bnd n = min n 5 := rfl
theorem z_ne {i j : Nat} (h : i < j) : (i = j) = False := eq_false (by omega)
theorem z_ne' {i j : Nat} (h : i < j) (c : Nat) : (i = j + c) = False := eq_false (by omega)
def CutI (R : TypD) (nm : List Nat) (m : Nat) (s : St) : Prop :=
  ∃ fr j t nb pv rs,s = ⟨fr,[],⟨up .e j,t,.lf⟩,.no,none,t6⟩ ∧ 3 ≤ j ∧ rs.length + m = bnd R.pads.l.length ∧
    fr.get t1 = some (.ptr (up .e 0) 0) ∧ fr.get t2 = some (.ptr (up .e 1) 0) ∧ fr.get t3 = some (.ptr (up .e 2) 0) ∧ fr.get t4 = some (.int .i64 (.ofNat rs.length)) ∧
    t.get (up .e 0) = some (.cells [.str R.nm,slV padC R.pads,slV gateC R.gates] false) ∧ t.get (up .e 1) = some (.cells [e0,.nils,.nils] false) ∧ t.get (up .e 2) = some (.cells [.str nm,pv,.nils] false) ∧
    Grow 7 t 3 j nb pv rs ∧ (∀ r ∈ rs,PadR (fun _ _ => False) r)
set_option maxHeartbeats 1000000 in
theorem cut_round (R : TypD) (nm : List Nat) (m : Nat) (s : St) (h : CutI R nm m s) :
    Stp (CutI R nm) (fun o => ∃ s,o = .exit 0 s ∧ CutI R nm 0 s) m (execA K2 (callN K2 49) c6_l0 s) := by
  obtain ⟨fr,j,t,nb,pv,rs,rfl,hj,hk,g1,g2,g3,g4,a0,a1,a2,hg,hr⟩ := h
  have hnb : nb < j := by
    rcases hg with ⟨_,_,h⟩ | ⟨_,_,_,_,h⟩ <;> omega
  cases m with
  | zero =>
    by_cases h5 : rs.length < R.pads.l.length
    · have hk5 : (rs.length < 5) = False := eq_false (by rw [bnd_def] at hk; omega)
      have hkn := eq_true h5
      simp +decide (disch := omega) only [c6_l0,execA,opsA,wantedA,evalAll,evalA,oneA,st_mov,st_load,st_bin,st_fieldAddr,st_pick,st_len,ld_ptr,H.cellsAt,partA,tk_s,tk_0,tk_c,binAV,St.put,Tr.get_put,if_true,if_false,cond_true,Nat.zero_add,nbeq,decide_true,decide_false,eqK,kindNo,Option.map_some,beq_self_eq_true,g1,g4,a0,len_slV,ltI_dec,hkn,hk5,stp_e]
      refine ⟨_,rfl,_,j,t,nb,pv,rs,rfl,hj,hk,?_,?_,?_,?_,a0,a1,a2,hg,hr⟩
      all_goals simp +decide only [Tr.get_put,g1,g2,g3,g4,if_false]
    · have hkn := eq_false h5
      simp +decide (disch := omega) only [c6_l0,execA,opsA,wantedA,evalAll,evalA,oneA,st_mov,st_load,st_bin,st_fieldAddr,st_pick,st_len,ld_ptr,H.cellsAt,partA,tk_s,tk_0,tk_c,binAV,St.put,Tr.get_put,if_true,if_false,cond_true,cond_false,Nat.zero_add,nbeq,decide_true,decide_false,eqK,kindNo,Option.map_some,beq_t,g1,g4,a0,len_slV,ltI_dec,hkn,stp_e]
      refine ⟨_,rfl,_,j,t,nb,pv,rs,rfl,hj,hk,?_,?_,?_,?_,a0,a1,a2,hg,hr⟩
      all_goals simp +decide only [Tr.get_put,g1,g2,g3,g4,if_false]
  | succ m =>
    have hkn : (rs.length < R.pads.l.length) = True := eq_true (by rw [bnd_def] at hk; omega)
    have hk5 : (rs.length < 5) = True := eq_true (by rw [bnd_def] at hk; omega)
    have hw := wr_add rs.length 1 (by have := of_eq_true hk5; omega)
    obtain ⟨x,hka⟩ : ∃ x,R.pads.l[rs.length]? = some x := ⟨_,List.getElem?_eq_getElem (by simpa using hkn)⟩
    have ia := at_slV (f := padC) (sz := 7) len_pad (by decide) hka
    have hs1 := slice_str (s := x.nm) (m := min x.nm.length 20) (by omega)
    obtain ⟨s',hs2,hs3⟩ := slice_slV (f := edC) len_ed (s := x.es) (m := min x.es.l.length 4) (by omega)
    have z0 := z_ne (i := 0) (j := j) (by omega)
    have z1 := z_ne (i := 1) (j := j) (by omega)
    have z2 := z_ne (i := 2) (j := j) (by omega)
    have y0 := z_ne' (i := 0) (j := j) (by omega)
    have y1 := z_ne' (i := 1) (j := j) (by omega)
    have y2 := z_ne' (i := 2) (j := j) (by omega)
    simp +decide only [c6_l0,execA,opsA,wantedA,evalAll,evalA,oneA,st_mov,st_alloc,st_load,st_store,st_bin,st_fieldAddr,st_indexAddr,st_pick,st_slice,st_len,st_min,st_buildSl,st_append,ld_ptr,ld_rs,H.cellsAt,H.newB,partA,tk_s,tk_0,tk_c,storeA,setAt,fillS,ones,cl_agg,on_int,on_str,cl_str,on_slV,cl_slV,ln_str,binAV,St.put,Tr.get_put,List.nil_append,List.cons_append,if_true,if_false,cond_true,Nat.zero_add,Nat.add_zero,Nat.zero_mul,up_succ,up_inj,List.length,nbeq,nble,decide_true,Nat.reduceAdd,eqK,kindNo,Option.map_some,beq_self_eq_true,Bool.and_self,Nat.add_assoc,z2,padC,g1,g3,g4,a0,a2,len_slV,ltI_dec,hkn,hk5,ia,min_nat,hs1,hs3]
    generalize hA : appendA _ 7 80 _ _ = A
    generalize hTT : Tr.put _ (up .e (j + 1)) _ = TT at hA
    have k0 : TT.get (up .e (j + 1)) = some (.cells [.str (x.nm.take (min x.nm.length 20)),.int .i64 x.kd,slV edC s',.int .i64 x.r,.int .i64 x.x,.int .i64 x.y,.int .i64 x.dr] false) := by
      rw [← hTT,Tr.get_put,if_pos rfl]
    have kold : ∀ i,i < j → TT.get (up .e i) = t.get (up .e i) := fun i hi => by
      rw [← hTT]
      simp +decide (disch := omega) only [Tr.get_put,up_ne,if_false]
    have hl7 : [AV.str (x.nm.take (min x.nm.length 20)),.int .i64 x.kd,slV edC s',.int .i64 x.r,.int .i64 x.x,.int .i64 x.y,.int .i64 x.dr].length = 7 := rfl
    have hon : ones [AV.str (x.nm.take (min x.nm.length 20)),.int .i64 x.kd,slV edC s',.int .i64 x.r,.int .i64 x.x,.int .i64 x.y,.int .i64 x.dr] = true := by simp only [ones,on_str,on_int,on_slV,Bool.and_self]
    have hrow : PadR (fun _ _ => False) [AV.str (x.nm.take (min x.nm.length 20)),.int .i64 x.kd,slV edC s',.int .i64 x.r,.int .i64 x.x,.int .i64 x.y,.int .i64 x.dr] :=
      ⟨_,_,_,_,_,_,_,rfl,.inl ⟨s',by rw [hs2,List.length_take]; omega,rfl⟩⟩
    generalize [AV.str (x.nm.take (min x.nm.length 20)),.int .i64 x.kd,slV edC s',.int .i64 x.r,.int .i64 x.x,.int .i64 x.y,.int .i64 x.dr] = row at k0 hl7 hon hrow
    have k1 : Grow 7 TT 3 (j + 2) nb pv rs := hg.keep (hi' := j + 2) (by omega) (fun _ h => kold nb h)
    have k2 : rs.length < 1000000 := by have := of_eq_true hk5; omega
    have k3 : 3 ≤ j + 2 := by omega
    have k4 : ∀ r ∈ rs,r.length = 7 := fun r h => (hr r h).len
    have ap := Grow.append k1 hA k0 hl7 hon k4 (by decide) k2 k3
    obtain ⟨t2,hA2,b1,b2,b3⟩ := ap
    subst hA2
    have q0 := (b2 0 (by omega) (fun _ _ => by omega)).trans ((kold 0 (by omega)).trans a0)
    have q1 := (b2 1 (by omega) (fun _ _ => by omega)).trans ((kold 1 (by omega)).trans a1)
    have q2 := (b2 2 (by omega) (fun _ _ => by omega)).trans ((kold 2 (by omega)).trans a2)
    have hpv := hg.one
    simp +decide only [st_mov,st_store,st_bin,st_fieldAddr,storeA,setAt,ones,on_slc,cl_slc,binAV,Tr.get_put,if_true,if_false,cond_true,Nat.zero_add,List.length,nbeq,decide_true,Nat.reduceAdd,eqK,kindNo,Option.map_some,Bool.and_self,Nat.add_assoc,g3,g4,q2,hw,stp_n]
    refine ⟨m,by omega,_,_,_,_,_,_,rfl,by omega,?_,?_,?_,?_,?_,?_,?_,by rw [Tr.get_put,if_pos rfl],b3.keep (Nat.le_refl _) (fun _ _ => ?_),fun r h => ?_⟩
    · rw [List.length_append]; simp only [List.length_cons,List.length_nil]; omega
    any_goals simp +decide (disch := omega) only [Tr.get_put,up_ne,g1,g2,g3,q0,q1,List.length_append,List.length_cons,List.length_nil,if_true,if_false,Nat.zero_add]
    rcases List.mem_append.1 h with h | h
    · exact hr r h
    · rw [List.mem_singleton.1 h]
      exact hrow
end Go.Abs.Sym
end
