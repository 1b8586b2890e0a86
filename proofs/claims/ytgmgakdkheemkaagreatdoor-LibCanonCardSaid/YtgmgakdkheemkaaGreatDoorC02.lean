/- LibCanon: the loops of the law. -/
import Derived.Test.YtgmgakdkheemkaaGreatDoorC01
import Derived.Test.YtgmgakdkheemkaaGreatDoorL45
section
namespace Go.Abs.Sym
open Go.Abs.T
open Go.Proofs
theorem st_mkMap (h : H) : stepA h .mkMap [] = .val (.mapv h.next) (h.newB (.amap [])) := rfl
theorem st_range (h : H) (m : AV) : stepA h .rangeMap [m] = rangeM h m := rfl
theorem st_look (h : H) (kn : KeyK) (z : AV) (ok : Bool) (m k : AV) : stepA h (.lookup kn z ok) [m,k] = match lookupA h kn z ok m k with | some v => .val v h | none => .bad := rfl
theorem rd_look (h : H) (kn : KeyK) (z : AV) (ok : Bool) (m k : AV) : readA h (.lookup kn z ok) [m,k] = lookupA h kn z ok m k := rfl
theorem st_upd (h : H) (kn : KeyK) (m k v : AV) : stepA h (.mapUpd kn) [m,k,v] = match mapUpdA h kn m k v with | some h => .val (.tup []) h | none => .bad := rfl
theorem mk_mkMap (id : Pth) : makeA .mkMap [] id = some (.mapv id,.amap []) := rfl
theorem look_E {h : H} {id : Pth} {es : Es} (hg : h.t.get id = some (.amap (esC es))) (s : List Nat) : lookupA h ⟨[.s],false⟩ i0 false (.mapv id) (.str s) = some (.int .i64 (valE s es)) := by
  have hk : keyOK ⟨[.s],false⟩ (.str s) = true := by
    simp only [keyOK,keyEq,keyCells,cond_false,eqFlat,eqS_iff.2 rfl,cond_true]
  simp only [lookupA,hk,cond_true,hg,find_E,valE]
  cases getE s es <;> rfl
theorem upd_Em {h : H} {id : Pth} {es : Es} (hg : h.t.get id = some (.amap (esC es))) (s : List Nat) (n : Int) : mapUpdA h ⟨[.s],false⟩ (.mapv id) (.str s) (.int .i64 n) = some { h with t := h.t.put id (.amap (esC (putE s n es))) } := by
  have hk : keyOK ⟨[.s],false⟩ (.str s) = true := by
    simp only [keyOK,keyEq,keyCells,cond_false,eqFlat,eqS_iff.2 rfl,cond_true]
  simp only [mapUpdA,hk,cond_true,hg,find_E,upd_E]
theorem val_put (s t : List Nat) (n : Int) (es : Es) : valE s (putE t n es) = bif eqS s t then n else valE s es := by
  unfold valE
  rw [get_put]
  cases eqS s t <;> rfl
theorem esl_put (s : List Nat) (n : Int) : ∀ es : Es,(putE s n es).length ≤ es.length + 1
  | [] => Nat.le_refl _
  | (k,x) :: es => by
    have := esl_put s n es
    simp only [putE]
    cases eqS s k <;> simp only [cond_true,cond_false,List.length_cons] <;> omega
theorem next_go {h : H} {id m : Pth} {es : List (AV × AV)} {k : Nat} {a v : AV} (hi : h.t.get id = some (.miter (some m) es.length k)) (hg : h.t.get m = some (.amap es)) (hk : k < es.length) (ha : anyA es = some (a,v)) :
    stepA h (.next false) [.ptr id 0] = .val (.tup [.bool true,a,v]) { h with t := h.t.put id (.miter (some m) es.length (k + 1)) } := by
  have h1 : Nat.beq es.length es.length = true := Nat.beq_refl _
  have h2 : Nat.blt k es.length = true := by simpa using hk
  simp only [stepA,hi,nextM,hg,h1,h2,cond_true,ha]
theorem next_end {h : H} {id m : Pth} {es : List (AV × AV)} (hi : h.t.get id = some (.miter (some m) es.length es.length)) (hg : h.t.get m = some (.amap es)) :
    stepA h (.next false) [.ptr id 0] = .val (.tup [.bool false]) h := by
  have h1 : Nat.beq es.length es.length = true := Nat.beq_refl _
  have h2 : Nat.blt es.length es.length = false := by
    rw [Bool.eq_false_iff]
    intro h
    simp at h
  simp only [stepA,hi,nextM,hg,h1,h2,cond_true,cond_false]
theorem entry_go {h : H} {id m : Pth} {es : List (AV × AV)} {k : Nat} {a v : AV} (hi : h.t.get id = some (.miter (some m) es.length (k + 1))) (hg : h.t.get m = some (.amap es)) (ha : anyA es = some (a,v)) :
    stepA h .entry [.ptr id 0] = .val (.tup [a,v]) h := by
  have h1 : Nat.beq es.length es.length = true := Nat.beq_refl _
  have h2 : Nat.blt 0 (k + 1) = true := by simp
  simp only [stepA,hi,entryM,hg,h1,h2,Bool.and_self,cond_true,ha]
section
variable (l x : Ls) (id it nx : Pth)
abbrev stC (fr : Tr AV) (t : Tr AB) : St := ⟨fr,[],⟨nx,t,.lf⟩,.no,none,t4⟩
def CA (fr : Tr AV) (t : Tr AB) (k : Nat) : Prop := fr.get t3 = some (.bool true) ∧ fr.get t5 = some (strsV l) ∧ fr.get t7 = some (strsV x) ∧ fr.get t11 = some (.mapv id) ∧ fr.get t73 = some (.int .i64 (.ofNat l.length)) ∧ fr.get t74 = some (.int .i64 (.ofNat k)) ∧
  ∃ es,t.get id = some (.amap (esC es)) ∧ DisE es ∧ es.length ≤ 2 * k ∧ ∀ s,valE s es = (cnt l s k : Int) - (cnt x s k : Int)
def QCA (o : Out) : Prop := ∃ fr t,o = .exit 0 (stC nx fr t) ∧ CA l x id fr t l.length
variable {l x id it nx}
variable {X : Ctx} {call : CallF}
set_option maxHeartbeats 4000000 in
theorem canon_l0 (hx : x.length = l.length) (h6 : l.length ≤ 6) {fr : Tr AV} {t : Tr AB} (h : CA l x id fr t 0) : QCA l x id nx (iterA (execA X call c4_l0) 100000 (stC nx fr t)) := by
  refine iter_rule (fun z s => ∃ fr t k,s = stC nx fr t ∧ k + z = l.length ∧ CA l x id fr t k) (QCA l x id nx) ?_ 100000 l.length _ ⟨fr,t,0,rfl,by omega,h⟩ (by omega)
  rintro z s ⟨fr,t,k,rfl,hk,g3,g5,g7,g11,g73,g74,es,ge,hd,hle,hc⟩
  cases z with
  | zero =>
    obtain rfl : k = l.length := by omega
    have hkn : (l.length < l.length) = False := eq_false (by omega)
    simp +decide only [c4_l0,execA,opsA,wantedA,evalAll,evalA,oneA,st_bin,binAV,St.put,Tr.get_put,if_true,cond_true,nbeq,decide_true,decide_false,eqK,kindNo,g73,g74,ltI_dec,hkn,stp_e]
    refine ⟨_,_,rfl,?_,?_,?_,?_,?_,?_,es,ge,hd,hle,hc⟩
    all_goals simp +decide only [Tr.get_put,g3,g5,g7,g11,g73,g74,if_false]
  | succ z =>
    have hkn : (k < l.length) = True := eq_true (by omega)
    obtain ⟨a,ha⟩ : ∃ a,l[k]? = some a := ⟨_,List.getElem?_eq_getElem (by omega)⟩
    obtain ⟨b,hb⟩ : ∃ b,x[k]? = some b := ⟨_,List.getElem?_eq_getElem (by omega)⟩
    have ia := at_slV (f := strC) (sz := 1) len_str (by decide) (s := ⟨1,l⟩) ha
    have ib := at_slV (f := strC) (sz := 1) len_str (by decide) (s := ⟨1,x⟩) hb
    rw [← strsV_eq] at ia ib
    simp only [strC] at ia ib
    have hw := wr_add k 1 (by omega)
    have lk1 : ∀ nx : Pth,lookupA ⟨nx,t,.lf⟩ ⟨[.s],false⟩ i0 false (.mapv id) (.str a) = some (.int .i64 (valE a es)) := fun nx => look_E (h := ⟨nx,t,.lf⟩) ge a
    have hca := hc a
    have ca1 := cnt_le l a k
    have ca2 := cnt_le x a k
    have w1 : wrapA .i64 (valE a es + .ofNat 1) = valE a es + .ofNat 1 := wr_id (by rw [hca]; simp only [Int.ofNat_eq_natCast]; omega) (by rw [hca]; simp only [Int.ofNat_eq_natCast]; omega)
    generalize he1 : putE a (valE a es + .ofNat 1) es = es1
    have up1 : ∀ nx : Pth,mapUpdA ⟨nx,t,.lf⟩ ⟨[.s],false⟩ (.mapv id) (.str a) (.int .i64 (valE a es + .ofNat 1)) = some ⟨nx,t.put id (.amap (esC es1)),.lf⟩ := fun nx => by
      rw [← he1]
      exact upd_Em (h := ⟨nx,t,.lf⟩) ge a _
    have ge1 : (t.put id (.amap (esC es1))).get id = some (.amap (esC es1)) := by rw [Tr.get_put,if_pos rfl]
    have hc1 : ∀ s,valE s es1 = (cnt l s (k + 1) : Int) - (cnt x s k : Int) := fun s => by
      rw [← he1,val_put,cnt_succ ha]
      cases hs : eqS s a with
      | true =>
        have := eqS_iff.1 hs
        subst this
        simp only [cond_true,hc,Bool.toNat_true,Int.ofNat_eq_natCast]
        omega
      | false =>
        simp only [cond_false,hc,Bool.toNat_false]
        omega
    have hcb := hc1 b
    have cb1 := cnt_le l b (k + 1)
    have cb2 := cnt_le x b k
    have lk2 : ∀ nx : Pth,lookupA ⟨nx,t.put id (.amap (esC es1)),.lf⟩ ⟨[.s],false⟩ i0 false (.mapv id) (.str b) = some (.int .i64 (valE b es1)) := fun nx => look_E (h := ⟨nx,t.put id (.amap (esC es1)),.lf⟩) ge1 b
    have w2 : wrapA .i64 (valE b es1 - .ofNat 1) = valE b es1 - .ofNat 1 := wr_id (by rw [hcb]; simp only [Int.ofNat_eq_natCast]; omega) (by rw [hcb]; simp only [Int.ofNat_eq_natCast]; omega)
    have up2 : ∀ nx : Pth,mapUpdA ⟨nx,t.put id (.amap (esC es1)),.lf⟩ ⟨[.s],false⟩ (.mapv id) (.str b) (.int .i64 (valE b es1 - .ofNat 1)) = some ⟨nx,(t.put id (.amap (esC es1))).put id (.amap (esC (putE b (valE b es1 - .ofNat 1) es1))),.lf⟩ := fun nx =>
      upd_Em (h := ⟨nx,t.put id (.amap (esC es1)),.lf⟩) ge1 b _
    have bs : ∀ a b : Int,binAV .sub .one (.int .i64 a) (.int .i64 b) = some (.int .i64 (wrapA .i64 (a - b))) := fun _ _ => rfl
    simp +decide only [c4_l0,execA,opsA,wantedA,evalAll,evalA,oneA,st_mov,st_load,st_bin,st_indexAddr,ld_rn,binAV,St.put,Tr.get_put,List.nil_append,List.cons_append,if_true,if_false,cond_true,nbeq,decide_true,eqK,kindNo,st_look,st_upd,g73,g74,ltI_dec,hkn,g5,g7,g11,ia,ib,lk1,lk2,up1,up2,w1,w2,hw,stp_n]
    refine ⟨z,by omega,_,_,k + 1,rfl,by omega,?_,?_,?_,?_,?_,?_,putE b (valE b es1 - .ofNat 1) es1,?_,?_,?_,fun s => ?_⟩
    · simp +decide only [Tr.get_put,g3,if_false]
    · simp +decide only [Tr.get_put,g5,if_false]
    · simp +decide only [Tr.get_put,g7,if_false]
    · simp +decide only [Tr.get_put,g11,if_false]
    · simp +decide only [Tr.get_put,g73,if_false]
    · simp +decide only [Tr.get_put,if_true,if_false]
    · rw [Tr.get_put,if_pos rfl]
    · rw [← he1]
      exact dis_put (dis_put hd)
    · rw [← he1]
      have h1 := esl_put b (valE b (putE a (valE a es + .ofNat 1) es) - .ofNat 1) (putE a (valE a es + .ofNat 1) es)
      have h2 := esl_put a (valE a es + .ofNat 1) es
      omega
    · rw [val_put,cnt_succ hb]
      cases hs : eqS s b with
      | true =>
        have := eqS_iff.1 hs
        subst this
        simp only [cond_true,hc1,Bool.toNat_true,Int.ofNat_eq_natCast]
        omega
      | false =>
        simp only [cond_false,hc1,Bool.toNat_false]
        omega
def CB (es : Es) (fr : Tr AV) (t : Tr AB) (k : Nat) : Prop := fr.get t3 = some (.bool true) ∧ fr.get t93 = some (.ptr it 0) ∧ t.get it = some (.miter (some id) es.length k) ∧ t.get id = some (.amap (esC es))
def QCB (o : Out) : Prop := ∃ fr t,o = .exit 2 (stC nx fr t) ∧ fr.get t3 = some (.bool true)
set_option maxHeartbeats 4000000 in
theorem canon_l1 {es : Es} (hz : ∀ p ∈ es,p.2 = 0) (h12 : es.length ≤ 12) (hne : id ≠ it) {fr : Tr AV} {t : Tr AB} (h : CB (id := id) (it := it) es fr t 0) : QCB (nx := nx) (iterA (execA X call c4_l1) 100000 (stC nx fr t)) := by
  refine iter_rule (fun z s => ∃ fr t k,s = stC nx fr t ∧ k + z = es.length ∧ CB (id := id) (it := it) es fr t k) (QCB (nx := nx)) ?_ 100000 es.length _ ⟨fr,t,0,rfl,by omega,h⟩ (by omega)
  rintro z s ⟨fr,t,k,rfl,hk,g3,g93,gi,gm⟩
  have hl : (esC es).length = es.length := by simp only [esC,List.length_map]
  rw [← hl] at gi hk
  cases z with
  | zero =>
    obtain rfl : k = (esC es).length := by omega
    have hn : stepA ⟨nx,t,.lf⟩ (.next false) [.ptr it 0] = _ := next_end (h := ⟨nx,t,.lf⟩) gi gm
    simp +decide only [c4_l1,execA,opsA,wantedA,evalAll,evalA,oneA,st_extract,St.put,Tr.get_put,if_true,if_false,g93,hn,ex_0,stp_e]
    exact ⟨_,_,rfl,by simp +decide only [Tr.get_put,g3,if_false]⟩
  | succ z =>
    obtain ⟨a,ha⟩ := any_zero hz (by omega)
    have hn : stepA ⟨nx,t,.lf⟩ (.next false) [.ptr it 0] = _ := next_go (h := ⟨nx,t,.lf⟩) gi gm (by omega) ha
    have he : stepA ⟨nx,t.put it (.miter (some id) (esC es).length (k + 1)),.lf⟩ .entry [.ptr it 0] = _ := entry_go (h := ⟨nx,t.put it (.miter (some id) (esC es).length (k + 1)),.lf⟩) (k := k) (by rw [Tr.get_put,if_pos rfl]) (by rw [Tr.get_put,if_neg hne]; exact gm) ha
    have e0 : eqI (.ofNat 0) (.ofNat 0) = true := rfl
    have bn : ∀ a b : Int,binAV .neq .one (.int .i64 a) (.int .i64 b) = some (.bool (!eqI a b)) := fun _ _ => rfl
    simp +decide only [c4_l1,execA,opsA,wantedA,evalAll,evalA,oneA,st_mov,st_bin,st_extract,binAV,eqAV,St.put,Tr.get_put,if_true,if_false,cond_true,nbeq,decide_true,Bool.not_true,eqK,kindNo,Option.map_some,g93,hn,he,ex_0,ex_1,e0,stp_n]
    refine ⟨z,by omega,_,_,k + 1,rfl,by omega,?_,?_,?_,?_⟩
    · simp +decide only [Tr.get_put,g3,if_false]
    · simp +decide only [Tr.get_put,g93,if_false]
    · rw [Tr.get_put,if_pos rfl,hl]
    · rw [Tr.get_put,if_neg hne]
      exact gm
end
end Go.Abs.Sym
end
section
namespace Go.Abs.Sym
open Go.Abs.T
open Go.Proofs
set_option maxHeartbeats 4000000 in
set_option maxRecDepth 10000 in
theorem law_canon (c : CaseD) (hc : CaseOK c) : ∃ X : Ctx,@Lev triv X ∧ X.sums t4 [.agg (caseC c)] h0 = none ∧ X.funcs.get t4 = some T.c4 ∧ Ret (callN X 60 (.fn t4 [] []) [.agg (caseC c)] h0) (fun v _ => v = .bool true) := by
  obtain ⟨cs,gs,n1,n2,k2,k6,hcs,hgs,f1,f2,f3,f4,hmade⟩ := made7_sum c hc
  obtain ⟨g,hg,rfl⟩ := vars_of k2 k6 hgs
  have hne : cs ≠ [] := by
    intro e
    rw [e] at k2
    exact absurd k2 (by decide)
  have hlev := levKT hcs k6 hg hne
  generalize hT : tyOf [112,97,114,116] cs (gsOf g) = T at hmade hlev
  generalize hM : cs.length = m at *
  have hl : (n1.map net5).length = m := by rw [List.length_map]; exact f1
  have hl2 : (n2.map net5).length = m := by rw [List.length_map]; exact f2
  generalize n1.map net5 = l at *
  generalize n2.map net5 = l2 at *
  have hX : ∀ f xs h,Pth.beq f t12 = false → Pth.beq f t10 = false → Pth.beq f t9 = false → (KU m g T).sums f xs h = K5.sums f xs h := fun f xs h h1 h2 h3 => (ku_rest m g T f h1 xs h).trans (kt_rest m g T f h2 h3 xs h)
  refine ⟨KU m g T,@Lev.over triv _ hlev _ _,by rw [hX t4 _ _ rfl rfl rfl]; rfl,rfl,?_⟩
  have hs : ∀ xs,(KU m g T).sums t4 xs h0 = none := fun xs => by rw [hX t4 _ _ rfl rfl rfl]; rfl
  have hF : (KU m g T).funcs.get t4 = some c4 := rfl
  have hfu : (KU m g T).fuel = 100000 := rfl
  refine begin1 (hs _) hF fun fr t ga => ?_
  have hlx : (canonS g l).length = m := by rw [len_canonS]; exact hl
  obtain ⟨_,hid⟩ := canon_reach hg k6 hl
  have hperm := canon_perm hg k6 hl
  have c6 : ∀ h,callN (KU m g T) 59 (.fn t6 [] []) [] h = .ret (.bool true) h := fun h => call_sum (by rw [List.nil_append,List.append_nil,hX t6 _ _ rfl rfl rfl,k5_6]; rfl)
  have c7 : ∀ h,callN (KU m g T) 59 (.fn t7 [] []) [.agg (caseC c)] h = .ret (.tup [.agg (tyC T),strsV l,strsV l2]) h := fun h => call_sum (by rw [List.nil_append,List.append_nil,hX t7 _ _ rfl rfl rfl,strsV_eq,strsV_eq]; exact hmade h)
  have c10 : ∀ (x : List (List Nat)),x.length = m → ∀ h,callN (KU m g T) 59 (.fn t10 [] []) [.agg (tyC T),strsV x] h = .ret (.tup [strsV (canonS g x),.bool true]) h := fun x hx h => call_sum (by
    rw [List.nil_append,List.append_nil,ku_rest m g T t10 rfl,← canonF_eq hg k6 hx]; exact kt_canon m g T x hx h)
  have c12 : ∀ (x y : List (List Nat)),x.length = m → y.length = m → ∀ h,callN (KU m g T) 59 (.fn t12 [] []) [.agg (tyC T),strsV x,strsV y] h = .ret (.bool (decide (canonS g x = canonS g y))) h := fun x y hx hy h => call_sum (by
    rw [List.nil_append,List.append_nil,← canonF_eq hg k6 hx,← canonF_eq hg k6 hy]; exact ku_12 m g T x y hx hy (by rw [canonF_eq hg k6 hx,len_canonS]; omega) h)
  have c11 : ∀ h,callN (KU m g T) 59 (.fn t11 [] []) [strsV (canonS g l),strsV (canonS g l)] h = .ret (.bool true) h := fun h => call_sum (by
    rw [List.nil_append,List.append_nil,hX t11 _ _ rfl rfl rfl,k5_11,strsV_eq]; exact same19_sum ⟨1,canonS g l⟩ (by show (canonS g l).length < 90000; omega) h)
  have c10a := c10 l hl
  have c10b := c10 _ hlx
  rw [hid] at c10b
  have c12a := c12 l _ hl hlx
  rw [hid,decide_eq_true rfl] at c12a
  have c12b := c12 l l2 hl hl2
  have c12c := c12 l2 l hl2 hl
  have hsym : decide (canonS g l2 = canonS g l) = decide (canonS g l = canonS g l2) := by rw [decide_eq_decide]; exact eq_comm
  rw [hsym] at c12c
  generalize decide (canonS g l = canonS g l2) = q at c12b c12c
  have ln1 : ∀ H,lenVal H .slc (strsV l) = some (.int .i64 (.ofNat m)) := fun H => by rw [strsV_eq,len_slV]; exact congrArg (fun n => some (AV.int .i64 (.ofNat n))) hl
  have ln2 : ∀ H,lenVal H .slc (strsV (canonS g l)) = some (.int .i64 (.ofNat m)) := fun H => by rw [strsV_eq,len_slV]; exact congrArg (fun n => some (AV.int .i64 (.ofNat n))) hlx
  have em : eqI (.ofNat m) (.ofNat m) = true := by rw [eqI_dec]; exact decide_eq_true rfl
  have qq : ∀ q : Bool,(q == q) = true := fun q => by cases q <;> rfl
  simp only [caseC] at ga c7
  simp only [tyC] at c7 c10a c10b c12a c12b c12c
  rw [c4_eq]
  simp +decide only [execA,opsA,wantedA,evalAll,evalA,oneA,dregA,dopsA,dstep,isMaker,withP_nil,takesP_nil,leavesP_nil,rd_mov,rd_pick,rd_load,rd_bin,rd_not,rd_len,st_mov,st_alloc,st_box,st_load,st_store,st_bin,st_not,st_call,st_extract,st_pick,st_len,ld_ptr,H.cellsAt,H.newB,partA,tk_0,tk_c,storeA,setAt,ones,cl_agg,on_str,on_slV,binAV,eqAV,St.put,Tr.get_put,if_true,if_false,cond_true,cond_false,Nat.zero_add,skip_up0,up_up,up_succ,List.length,seesHeap,quiet,recheck,nbeq,nble,decide_true,decide_false,Nat.reduceAdd,Bool.and_true,Bool.and_false,Bool.or_true,Bool.not_true,List.all,eqK,kindNo,leaveA,resultA,resultsA,Option.map_some,beq_self_eq_true,beq_rfl,Bool.and_self,ex_0,ex_1,ex_2,ga,c6,c7,c10a,c10b,c11,c12a,c12b,c12c,ln1,ln2,em,st_mkMap,hfu]
  generalize hit : iterA (execA (KU m g T) (callN (KU m g T) 59) c4_l0) 100000 _ = o
  have hq : QCA l (canonS g l) (up Pth.e 39) (up Pth.e 40) o := by
    rw [← hit]
    refine canon_l0 (by omega) (by omega) ⟨?_,?_,?_,?_,?_,?_,[],?_,trivial,Nat.zero_le _,fun s => rfl⟩
    all_goals simp +decide only [Tr.get_put,if_true,if_false,hl,esC,List.map_nil]
  obtain ⟨fr,t,rfl,g3,g5,g7,g11,g73,g74,es,ge,hd,hle,hcn⟩ := hq
  have hz : ∀ p ∈ es,p.2 = 0 := fun p hp => by
    have h1 := dis_get hd p hp
    have h2 := hcn p.1
    have h3 := cnt_perm hperm p.1
    rw [hlx,hl] at h3
    rw [hl,h3,valE,h1] at h2
    simp only [Option.getD_some] at h2
    omega
  have hrm : rangeM ⟨up Pth.e 40,t,.lf⟩ (.mapv (up Pth.e 39)) = .val (.ptr (up Pth.e 40) 0) ⟨up Pth.e 41,t.put (up Pth.e 40) (.miter (some (up Pth.e 39)) (esC es).length 0),.lf⟩ := by
    simp only [rangeM,ge]
    rfl
  have hne' : ¬ up Pth.e 39 = up Pth.e 40 := by decide
  simp +decide only [st_mov,Tr.get_put,if_true,cond_true,decide_true,g11,st_range,hrm]
  generalize hit : iterA (execA (KU m g T) (callN (KU m g T) 59) c4_l1) 100000 _ = o
  have hq : QCB (nx := up Pth.e 41) o := by
    rw [← hit]
    refine canon_l1 (id := up Pth.e 39) (it := up Pth.e 40) hz (by omega) hne' ⟨?_,?_,?_,?_⟩
    · simp +decide only [Tr.get_put,g3,if_false]
    · simp +decide only [Tr.get_put,if_true,if_false]
    · rw [Tr.get_put,if_pos rfl,esC,List.length_map]
    · rw [Tr.get_put,if_neg hne']
      exact ge
  obtain ⟨fr,t,rfl,g3⟩ := hq
  simp +decide only [st_mov,Tr.get_put,if_true,if_false,cond_true,decide_true,ret_iff,dfrsA,g3]
end Go.Abs.Sym
end
