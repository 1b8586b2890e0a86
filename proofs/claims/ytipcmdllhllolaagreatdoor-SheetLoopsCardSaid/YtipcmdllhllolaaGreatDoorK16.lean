/- A part of the proof that LibSwaps answers true at every input: AbsGood, AbsCtx, AbsFast, AbsFast2, AbsFastOp, AbsFast3. -/
import Derived.Test.YtipcmdllhllolaaGreatDoorK15
import Derived.Test.YtipcmdllhllolaaGreatDoorK01
import Derived.Test.YtipcmdllhllolaaGreatDoorK13
section
namespace Go.Abs
variable [envI:Env]
def Good (P:Program) (i:Pth) (F:AFunc):Prop :=
  ∃ fn body,P.funcs[i.num]? = some fn ∧ fn.body = some body ∧ (fn.name == "runtime.NumGoroutine") = false ∧ compFunc P fn = some F
omit envI in
theorem gd {P : Program} {i : Pth} {F : AFunc} {fn : Func} (hf : P.funcs[i.num]? = some fn) (h : (fn.body.isSome && !(fn.name == "runtime.NumGoroutine"),compFunc P fn) = (true,some F)) : Good P i F := by
  rw [Prod.mk.injEq,Bool.and_eq_true,Bool.not_eq_true'] at h
  obtain ⟨body,hb⟩:=Option.isSome_iff_exists.1 h.1.1
  exact ⟨fn,body,hf,hb,h.1.2,h.2⟩
inductive All {α:Type} (Q:Pth→α→Prop):Tr α→(Pth→Pth)→Prop
  | f {c:Pth→Pth}:All Q .lf c
  | s {l r:Tr α} {a:α} {c:Pth→Pth} (h:Q (c .e) a) (hl:All Q l (fun p=>c (.l p))) (hr:All Q r (fun p=>c (.r p))):All Q (.nd l (some a) r) c
  | n {l r:Tr α} {c:Pth→Pth} (hl:All Q l (fun p=>c (.l p))) (hr:All Q r (fun p=>c (.r p))):All Q (.nd l none r) c
omit envI in
theorem All.get {α:Type} {Q:Pth→α→Prop} {t:Tr α} {c:Pth→Pth} (h:All Q t c):∀ {p:Pth} {a:α},t.get p=some a→Q (c p) a:=by
  induction h with
  | f=>intro p a e; cases p<;>cases e
  | s h _ _ ihl ihr =>
    intro p a e
    cases p with
    | e=>cases e; exact h
    | l p=>exact ihl e
    | r p=>exact ihr e
  | n _ _ ihl ihr =>
    intro p a e
    cases p with
    | e=>cases e
    | l p=>exact ihl e
    | r p=>exact ihr e
def lookupT:List (AV×AV)→AV→Option AV
  | [],_=>none
  | (a,v)::t,x=>bif AV.beq a x then some v else lookupT t x
def tblSums (f:Pth) (tbl:List (AV×AV)) (more:Pth→List AV→H→Option AV) (i:Pth) (args:List AV) (h:H):Option AV :=
  bif Pth.beq i f then (match args with | [p]=>lookupT tbl (deep 8 h p) | _=>none) else more i args h
def SumsOK (P:Program) (X:Ctx) (s:Pth→List AV→H→Option AV):Prop :=
  ∀ i args h v,s i args h=some v→∀ ρ w (avs:Array Value),HR P X ρ h w→VRs w ρ (Lv ρ h) args avs.toList→CallR P X ρ h w (callFunc i.num avs) (.ret v h)
def Row (X0:Ctx) (f:Pth) (e:AV×AV):Prop:=frz e.1=true∧plainA e.2=true∧∃ n h1,callN X0 n (.fn f [] []) [e.1] h0=.ret e.2 h1
theorem noSums_ok {P:Program} {X:Ctx}:SumsOK P X (fun _ _ _=>none):=fun _ _ _ _ h=>by cases h
def isV (v:AV):CRes→Bool
  | .ret a _=>AV.beq a v
  | _=>false
omit envI in
theorem isV_ret {v:AV} {r:CRes} (h:isV v r=true):∃ h',r=.ret v h':=by
  cases r with
  | ret a h'=>exact ⟨h',by rw [AV.beq_eq _ _ h]⟩
  | panic _ _=>cases h
  | bad _=>cases h
end Go.Abs
end
section
namespace Go.Abs
variable [envI:Env]
def sumsOf (X:Ctx) (N:Nat) (fz dp:Pth→Bool) (more:Pth→List AV→H→Option AV) (i:Pth) (args:List AV) (h:H):Option AV :=
  bif fz i then
    (match callN X N (.fn i [] []) args h0 with
      | .ret v h1=>bif frzs args&&frz (deep 8 h1 v) then some (deep 8 h1 v) else none
      | _=>none)
  else bif dp i then
    (match callN X N (.fn i [] []) (args.map (deep 8 h)) h0 with
      | .ret v _=>bif frzs (args.map (deep 8 h))&&plainA v then some v else none
      | _=>none)
  else more i args h
theorem sumsOf_ok {P:Program} {X X0:Ctx} (xo:XOK P X0) (hg:X0.globs=.lf) {N:Nat} {fz dp:Pth→Bool} {more:Pth→List AV→H→Option AV} (hm:SumsOK P X more):SumsOK P X (sumsOf X0 N fz dp more):=by
  intro i args h v hs ρ w avs hr hv
  unfold sumsOf at hs
  cases hf:fz i with
  | true =>
    rw [hf] at hs
    simp only [cond_true] at hs
    cases hc:callN X0 N (.fn i [] []) args h0 with
    | ret v1 h1 =>
      rw [hc] at hs
      simp only at hs
      cases hb:(frzs args&&frz (deep 8 h1 v1)) with
      | false=>rw [hb] at hs; cases hs
      | true =>
        rw [hb] at hs
        cases hs
        simp only [Bool.and_eq_true] at hb
        exact sum_frozen xo hg hc hb.1 hb.2 hr hv
    | panic _ _=>rw [hc] at hs; cases hs
    | bad _=>rw [hc] at hs; cases hs
  | false =>
    rw [hf] at hs
    simp only [cond_false] at hs
    cases hd:dp i with
    | true =>
      rw [hd] at hs
      simp only [cond_true] at hs
      cases hc:callN X0 N (.fn i [] []) (args.map (deep 8 h)) h0 with
      | ret v1 h1 =>
        rw [hc] at hs
        simp only at hs
        cases hb:(frzs (args.map (deep 8 h))&&plainA v1) with
        | false=>rw [hb] at hs; cases hs
        | true =>
          rw [hb] at hs
          cases hs
          simp only [Bool.and_eq_true] at hb
          exact sum_of_frozen xo hg hc hb.2 hb.1 rfl hr hv
      | panic _ _=>rw [hc] at hs; cases hs
      | bad _=>rw [hc] at hs; cases hs
    | false =>
      rw [hd] at hs
      exact hm i args h v hs ρ w avs hr hv
def lev (X:Ctx) (N:Nat) (fz dp:Pth→Bool):Nat→Ctx
  | 0=>X
  | n+1=>{ X with sums:=sumsOf (lev X N fz dp n) N fz dp X.sums }
end Go.Abs
end
section
namespace Go.Abs.F
universe u
variable {β:Type}
noncomputable def nfNat (n:Nat) (k:Nat→β):β:=Nat.rec (motive:=fun _=>β) (k 0) (fun m _=>k (Nat.succ m)) n
theorem nfNat_eq (n:Nat) (k:Nat→β):nfNat n k=k n:=by cases n<;>rfl
noncomputable def nfInt (n:Int) (k:Int→β):β:=Int.casesOn (motive:=fun _=>β) n (fun m=>nfNat m (fun m=>k (.ofNat m))) (fun m=>nfNat m (fun m=>k (.negSucc m)))
theorem nfInt_eq (n:Int) (k:Int→β):nfInt n k=k n:=by cases n<;>simp [nfInt,nfNat_eq]
noncomputable def nfBool (b:Bool) (k:Bool→β):β:=Bool.casesOn (motive:=fun _=>β) b (k false) (k true)
theorem nfBool_eq (b:Bool) (k:Bool→β):nfBool b k=k b:=by cases b<;>rfl
noncomputable def nfOpt (o:Option Nat) (k:Option Nat→β):β:=Option.casesOn (motive:=fun _=>β) o (k none) (fun n=>nfNat n (fun n=>k (some n)))
theorem nfOpt_eq (o:Option Nat) (k:Option Nat→β):nfOpt o k=k o:=by cases o<;>simp [nfOpt,nfNat_eq]
noncomputable def nfL {α:Type} (l:List α):(List α→β)→β :=
  List.rec (motive:=fun _=>(List α→β)→β) (fun k=>k []) (fun a _ ih k=>ih (fun l=>k (a::l))) l
theorem nfL_eq {α:Type}:∀ (l:List α) (k:List α→β),nfL l k=k l
  | [],_k=>rfl
  | a::l,k=>nfL_eq l (fun l=>k (a::l))
noncomputable def nfLN (l:List Nat):(List Nat→β)→β :=
  List.rec (motive:=fun _=>(List Nat→β)→β) (fun k=>k []) (fun a _ ih k=>nfNat a (fun a=>ih (fun l=>k (a::l)))) l
theorem nfLN_eq:∀ (l:List Nat) (k:List Nat→β),nfLN l k=k l
  | [],k=>rfl
  | a::l,k=>by
    show nfNat a (fun a=>nfLN l (fun l=>k (a::l)))=_
    rw [nfNat_eq]
    exact nfLN_eq l (fun l=>k (a::l))
noncomputable def nfP (p:Pth):(Pth→β)→β :=
  Pth.rec (motive:=fun _=>(Pth→β)→β) (fun k=>k .e) (fun _ ih k=>ih (fun p=>k (.l p))) (fun _ ih k=>ih (fun p=>k (.r p))) p
theorem nfP_eq:∀ (p:Pth) (k:Pth→β),nfP p k=k p
  | .e,_k=>rfl
  | .l p,k=>nfP_eq p (fun p=>k (.l p))
  | .r p,k=>nfP_eq p (fun p=>k (.r p))
noncomputable def nfV (v:AV) (k:AV→β):β :=
  match v with
  | .bool b=>nfBool b fun b=>k (.bool b)
  | .int kd n=>nfInt n fun n=>k (.int kd n)
  | .str s=>nfLN s fun s=>k (.str s)
  | .ptr id off=>nfNat off fun off=>k (.ptr id off)
  | .slc id off len sz cap=>nfNat off fun off=>nfNat len fun len=>nfOpt cap fun cap=>k (.slc id off len sz cap)
  | .rslc len cs=>nfNat len fun len=>nfL cs fun cs=>k (.rslc len cs)
  | .rmap ks vs=>nfL ks fun ks=>nfL vs fun vs=>k (.rmap ks vs)
  | .rptr cs=>nfL cs fun cs=>k (.rptr cs)
  | .agg cs=>nfL cs fun cs=>k (.agg cs)
  | .tup cs=>nfL cs fun cs=>k (.tup cs)
  | .fn f a b=>nfL a fun a=>nfL b fun b=>k (.fn f a b)
  | v=>k v
theorem nfV_eq (v:AV) (k:AV→β):nfV v k=k v:=by
  cases v<;>simp only [nfV,nfBool_eq,nfInt_eq,nfLN_eq,nfNat_eq,nfOpt_eq,nfL_eq]
noncomputable def nfLV (l:List AV):(List AV→β)→β :=
  List.rec (motive:=fun _=>(List AV→β)→β) (fun k=>k []) (fun a _ ih k=>nfV a (fun a=>ih (fun l=>k (a::l)))) l
theorem nfLV_eq:∀ (l:List AV) (k:List AV→β),nfLV l k=k l
  | [],k=>rfl
  | a::l,k=>by
    show nfV a (fun a=>nfLV l (fun l=>k (a::l)))=_
    rw [nfV_eq]
    exact nfLV_eq l (fun l=>k (a::l))
noncomputable def nfB (b:AB) (k:AB→β):β :=
  match b with
  | .cells cs sp=>nfLV cs fun cs=>nfBool sp fun sp=>k (.cells cs sp)
  | .amap es=>nfL es fun es=>k (.amap es)
  | .siter s pos=>nfNat pos fun pos=>k (.siter s pos)
  | .miter m n i qs=>nfNat i fun i=>k (.miter m n i qs)
  | b=>k b
theorem nfB_eq (b:AB) (k:AB→β):nfB b k=k b:=by
  cases b<;>simp only [nfB,nfLV_eq,nfBool_eq,nfL_eq,nfNat_eq]
noncomputable def get {α:Type} (t:Tr α):Pth→Option α :=
  Tr.rec (motive:=fun _=>Pth→Option α) (fun _=>none) (fun _ v _ gl gr p=>Pth.casesOn (motive:=fun _=>Option α) p v gl gr) t
theorem get_eq {α:Type}:∀ (t:Tr α) (p:Pth),get t p=t.get p
  | .lf,p=>by cases p<;>rfl
  | .nd l v r,.e=>rfl
  | .nd l v r,.l p=>get_eq l p
  | .nd l v r,.r p=>get_eq r p
noncomputable def upd {α:Type} (x:Option α) (p:Pth):Tr α→(Tr α→β)→β :=
  Pth.rec (motive:=fun _=>Tr α→(Tr α→β)→β)
    (fun t k=>Tr.casesOn (motive:=fun _=>β) t (k (.nd .lf x .lf)) (fun l _ r=>k (.nd l x r)))
    (fun _ ih t k=>Tr.casesOn (motive:=fun _=>β) t (ih .lf (fun l'=>k (.nd l' none .lf))) (fun l v r=>ih l (fun l'=>k (.nd l' v r))))
    (fun _ ih t k=>Tr.casesOn (motive:=fun _=>β) t (ih .lf (fun r'=>k (.nd .lf none r'))) (fun l v r=>ih r (fun r'=>k (.nd l v r')))) p
theorem upd_eq {α:Type} (x:Option α):∀ (p:Pth) (t:Tr α) (k:Tr α→β),upd x p t k=k (Tr.upd x p t)
  | .e,t,k=>by cases t<;>rfl
  | .l p,.lf,k=>upd_eq x p .lf (fun l'=>k (.nd l' none .lf))
  | .l p,.nd l v r,k=>upd_eq x p l (fun l'=>k (.nd l' v r))
  | .r p,.lf,k=>upd_eq x p .lf (fun r'=>k (.nd .lf none r'))
  | .r p,.nd l v r,k=>upd_eq x p r (fun r'=>k (.nd l v r'))
theorem upd_put {α:Type} (x:α) (p:Pth) (t:Tr α) (k:Tr α→β):upd (some x) p t k=k (t.put p x):=upd_eq _ _ _ _
noncomputable def evalO (X:Ctx) (fr:Tr AV) (o:Opd) (z:β) (k:AV→β):β :=
  Opd.casesOn (motive:=fun _=>β) o (fun t=>Option.casesOn (motive:=fun _=>β) (get fr t) z k) (fun v=>k v) (fun g=>Option.casesOn (motive:=fun _=>β) (glA X g) z (fun cs=>k (.rptr cs)))
theorem evalO_eq (X:Ctx) (fr:Tr AV) (o:Opd) (z:β) (k:AV→β):evalO X fr o z k=match evalA X fr o with | some v=>k v | none=>z:=by
  cases o with
  | tmp t=>simp only [evalO,evalA,get_eq]; cases fr.get t<;>rfl
  | const v=>rfl
  | glob g=>simp only [evalO,evalA]; cases glA X g<;>rfl
noncomputable def evalL (X:Ctx) (fr:Tr AV) (os:List Opd) (z:β):(List AV→β)→β :=
  List.rec (motive:=fun _=>(List AV→β)→β) (fun k=>k []) (fun o _ ih k=>evalO X fr o z (fun v=>ih (fun vs=>k (v::vs)))) os
theorem evalL_eq (X:Ctx) (fr:Tr AV) (z:β):∀ (os:List Opd) (k:List AV→β),evalL X fr os z k=match evalAll X fr os with | some vs=>k vs | none=>z
  | [],k=>rfl
  | o :: os,k=>by
    show evalO X fr o z _=_
    rw [evalO_eq]
    simp only [evalAll]
    cases evalA X fr o with
    | none=>rfl
    | some v =>
      simp only
      have:=evalL_eq X fr z os (fun vs=>k (v::vs))
      cases h:evalAll X fr os with
      | none=>rw [h] at this; exact this
      | some vs=>rw [h] at this; exact this
noncomputable def putC (d:Option Pth) (v:AV) (fr:Tr AV) (k:Tr AV→β):β :=
  Option.casesOn (motive:=fun _=>β) d (k fr) (fun d=>upd (some v) d fr k)
structure Rest where
  df:List ADef
  rc:Rc
  rd:Option Pth
  fnid:Pth
def mk (fr:Tr AV) (h:H) (r:Rest):St:=⟨fr,r.df,h,r.rc,r.rd,r.fnid⟩
def rest (s:St):Rest:=⟨s.df,s.rc,s.rd,s.fnid⟩
theorem putC_eq (d:Option Pth) (v:AV) (fr:Tr AV) (h:H) (r:Rest) (k:St→β):putC d v fr (fun fr=>k (mk fr h r))=k ((mk fr h r).put d v):=by
  cases d with
  | none=>rfl
  | some d=>exact upd_put v d fr _
noncomputable def setH (h:H) (id:Pth) (b:AB) (k:H→β):β:=nfB b fun b=>upd (some b) id h.t fun t=>k ⟨h.next,t,h.ro⟩
theorem setH_eq (h:H) (id:Pth) (b:AB) (k:H→β):setH h id b k=k (h.setB id b):=by
  simp only [setH,nfB_eq,upd_put]; rfl
noncomputable def newH (h:H) (b:AB) (k:H→β):β:=nfB b fun b=>upd (some b) h.next h.t fun t=>nfP h.next.succ fun nx=>k ⟨nx,t,h.ro⟩
theorem newH_eq (h:H) (b:AB) (k:H→β):newH h b k=k (h.newB b):=by
  simp only [newH,nfB_eq,upd_put,nfP_eq]; rfl
noncomputable def cellsAt (h:H) (id:Pth):Option (List AV) :=
  match get h.t id with
  | some (.cells cs _)=>some cs
  | some _=>none
  | none=>get h.ro id
theorem cellsAt_eq (h:H) (id:Pth):cellsAt h id=h.cellsAt id:=by
  simp only [cellsAt,H.cellsAt,get_eq]
  cases h.t.get id with
  | none=>rfl
  | some b=>cases b<;>rfl
noncomputable def nth (cs:List AV):Nat→(AV→β)→β→β :=
  List.rec (motive:=fun _=>Nat→(AV→β)→β→β) (fun _ _ z=>z) (fun c _ ih n k z=>Nat.rec (motive:=fun _=>β) (k c) (fun m _=>ih m k z) n) cs
theorem nth_eq:∀ (cs:List AV) (n:Nat) (k:AV→β) (z:β),nth cs n k z=match cs[n]? with | some c=>k c | none=>z
  | [],n,k,z=>by simp; rfl
  | c::cs,0,k,z=>by simp; rfl
  | c::cs,n+1,k,z=>by
    show nth cs n k z=_
    rw [nth_eq cs n k z]
    simp
noncomputable def firstN (cs:List AV):Nat→(List AV→β)→β→β :=
  List.rec (motive:=fun _=>Nat→(List AV→β)→β→β) (fun n k z=>Nat.rec (motive:=fun _=>β) (k []) (fun _ _=>z) n)
    (fun c _ ih n k z=>Nat.rec (motive:=fun _=>β) (k []) (fun m _=>ih m (fun l=>k (c::l)) z) n) cs
theorem firstN_eq:∀ (cs:List AV) (n:Nat) (k:List AV→β) (z:β),firstN cs n k z=if n≤cs.length then k (cs.take n) else z
  | [],0,k,z=>by simp; rfl
  | [],n+1,k,z=>by simp; rfl
  | c::cs,0,k,z=>by simp; rfl
  | c::cs,n+1,k,z=>by
    show firstN cs n _ z=_
    rw [firstN_eq cs n]
    simp
noncomputable def dropN (cs:List AV):Nat→List AV :=
  List.rec (motive:=fun _=>Nat→List AV) (fun _=>[]) (fun c cs ih n=>Nat.rec (motive:=fun _=>List AV) (c::cs) (fun m _=>ih m) n) cs
theorem dropN_eq:∀ (cs:List AV) (n:Nat),dropN cs n=cs.drop n
  | [],n=>by simp; rfl
  | c::cs,0=>rfl
  | c::cs,n+1=>dropN_eq cs n
theorem takeD_eq (cs:List AV) (off n:Nat):takeD cs off n=if n≤(cs.drop off).length then some ((cs.drop off).take n) else none:=by
  unfold takeD
  simp only [List.length_take]
  by_cases h:n≤(cs.drop off).length
  · rw [if_pos h,Nat.min_eq_left h]
    simp
  · rw [if_neg h]
    have:Nat.beq (min n (cs.drop off).length) n=false:=by
      cases hb:Nat.beq (min n (cs.drop off).length) n with
      | false=>rfl
      | true=>have:=Nat.eq_of_beq_eq_true hb; omega
    rw [this]; rfl
noncomputable def partC (cs:List AV) (off:Nat) (n:Option Nat) (k:AV→β) (z:β):β :=
  Option.casesOn (motive:=fun _=>β) n (nth cs off k z) (fun n=>firstN (dropN cs off) n (fun l=>k (.agg l)) z)
theorem partC_eq (cs:List AV) (off:Nat) (n:Option Nat) (k:AV→β) (z:β):partC cs off n k z=match partA cs off n with | some v=>k v | none=>z:=by
  cases n with
  | none =>
    simp only [partC,nth_eq,partA,takeD_eq]
    by_cases h:off<cs.length
    · have hd:(cs.drop off).length=cs.length - off:=by simp
      have e1:=List.drop_eq_getElem_cons (l:=cs) (i:=off) h
      rw [if_pos (by omega),List.getElem?_eq_getElem h,e1]
      rfl
    · have hd:(cs.drop off).length=0:=by simp; omega
      rw [if_neg (by omega),List.getElem?_eq_none (by omega)]
  | some n =>
    simp only [partC,firstN_eq,dropN_eq,partA,takeD_eq]
    by_cases h:n≤(cs.drop off).length
    · rw [if_pos h,if_pos h]; rfl
    · rw [if_neg h,if_neg h]; rfl
noncomputable def pour (vs:List AV):List AV→(List AV→β)→β→β :=
  List.rec (motive:=fun _=>List AV→(List AV→β)→β→β) (fun cs k _=>k cs)
    (fun v _ ih cs k z=>List.casesOn (motive:=fun _=>β) cs z (fun _ cs=>ih cs (fun l=>k (v::l)) z)) vs
theorem pour_eq:∀ (vs cs:List AV) (k:List AV→β) (z:β),pour vs cs k z=match setAt cs 0 vs with | some l=>k l | none=>z
  | [],cs,k,z=>by cases cs<;>rfl
  | v::vs,[],k,z=>rfl
  | v::vs,c::cs,k,z=>by
    show pour vs cs (fun l=>k (v::l)) z=_
    rw [pour_eq vs cs]
    simp only [setAt]
    cases setAt cs 0 vs<;>rfl
noncomputable def setC (cs:List AV):Nat→List AV→(List AV→β)→β→β :=
  List.rec (motive:=fun _=>Nat→List AV→(List AV→β)→β→β) (fun _ vs k z=>pour vs [] k z)
    (fun c cs ih n vs k z=>Nat.rec (motive:=fun _=>β) (pour vs (c::cs) k z) (fun m _=>ih m vs (fun l=>k (c::l)) z) n) cs
theorem setC_eq:∀ (cs:List AV) (n:Nat) (vs:List AV) (k:List AV→β) (z:β),setC cs n vs k z=match setAt cs n vs with | some l=>k l | none=>z
  | [],n,[],k,z=>rfl
  | [],n,v::vs,k,z=>rfl
  | c::cs,0,vs,k,z=>pour_eq vs (c::cs) k z
  | c::cs,n+1,[],k,z=>by
    show setC cs n [] (fun l=>k (c::l)) z=_
    rw [setC_eq cs n]
    have:∀ (l:List AV) (n:Nat),setAt l n []=some l:=fun l n=>by cases l<;>rfl
    simp [this]
  | c::cs,n+1,v::vs,k,z=>by
    show setC cs n (v::vs) (fun l=>k (c::l)) z=_
    rw [setC_eq cs n]
    simp only [setAt]
    cases setAt cs n (v::vs)<;>rfl
end Go.Abs.F
end
section
namespace Go.Abs.F
variable {β:Type}
noncomputable def storeC (h:H) (n:Nat) (a v:AV) (k:H→β) (z:β):β :=
  match a with
  | .ptr id off=>match get h.t id with
    | some (.cells cs sp)=>bif Nat.beq v.cells.length n&&ones v.cells then setC cs off v.cells (fun cs=>upd (some (.cells cs sp)) id h.t fun t=>k ⟨h.next,t,h.ro⟩) z else z
    | _=>z
  | _=>z
theorem storeC_eq (h:H) (n:Nat) (a v:AV) (k:H→β) (z:β):storeC h n a v k z=match storeA h n a v with | some h=>k h | none=>z:=by
  cases a<;>try rfl
  rename_i id off
  simp only [storeC,storeA,get_eq]
  cases h.t.get id with
  | none=>rfl
  | some b =>
    cases b<;>try rfl
    rename_i cs sp
    simp only
    cases (Nat.beq v.cells.length n&&ones v.cells) with
    | false=>rfl
    | true =>
      simp only [cond_true,setC_eq,upd_put]
      cases setAt cs off v.cells<;>rfl
noncomputable def loadC (h:H) (n:Option Nat) (a:AV) (k:AV→β) (z:β):β :=
  match a with
  | .ptr id off=>match cellsAt h id with
    | some cs=>partC cs off n k z
    | none=>z
  | .rptr cs=>partC cs 0 n k z
  | _=>z
theorem loadC_eq (h:H) (n:Option Nat) (a:AV) (k:AV→β) (z:β):loadC h n a k z=match loadA h n a with | some v=>k v | none=>z:=by
  cases a<;>try rfl
  · rename_i id off
    simp only [loadC,loadA,cellsAt_eq]
    cases h.cellsAt id with
    | none=>rfl
    | some cs=>exact partC_eq _ _ _ _ _
  · exact partC_eq _ _ _ _ _
noncomputable def firstC (h:H) (sz n:Nat) (x:AV) (k:List AV→β) (z:β):β :=
  match x with
  | .slc id off len sz' _=>bif Nat.beq sz sz'&&Nat.ble n len then (match cellsAt h id with | some cs=>firstN (dropN cs off) (n*sz) k z | none=>z) else z
  | x=>match firstA h sz n x with | some l=>nfLV l k | none=>z
theorem firstN_take (cs:List AV) (off n:Nat) (k:List AV→β) (z:β):firstN (dropN cs off) n k z=match takeD cs off n with | some l=>k l | none=>z:=by
  rw [firstN_eq,dropN_eq,takeD_eq]
  by_cases h:n≤(cs.drop off).length
  · rw [if_pos h,if_pos h]
  · rw [if_neg h,if_neg h]
theorem firstC_eq (h:H) (sz n:Nat) (x:AV) (k:List AV→β) (z:β):firstC h sz n x k z=match firstA h sz n x with | some l=>k l | none=>z:=by
  cases x
  case slc id off len sz' cap =>
    simp only [firstC,firstA,cellsAt_eq]
    cases (Nat.beq sz sz'&&Nat.ble n len) with
    | false=>rfl
    | true =>
      simp only [cond_true]
      cases h.cellsAt id with
      | none=>rfl
      | some cs=>exact firstN_take _ _ _ _ _
  all_goals
    simp only [firstC,nfLV_eq]
noncomputable def appendC (h:H) (sz bytes:Nat) (s x:AV) (k:AV→H→β) (z:β):β :=
  match lenA x with
  | none=>z
  | some n => nfNat n fun n=>firstC h sz n x (fun new =>
    match s with
    | .nils =>
      bif Nat.beq n 0 then k .nils h else
      bif Nat.ble bigBytes (n*bytes)||Nat.ble bigBytes n then z else
      newH h (.cells new true) fun h'=>k (.slc h.next 0 n sz none) h'
    | .slc id off len sz' cap =>
      bif Nat.beq sz sz' then
      bif Nat.beq n 0 then k (.slc id off len sz' cap) h else
      bif Nat.ble bigBytes ((len+n)*bytes)||Nat.ble bigBytes (len+n) then z else
      match cap with
      | some c =>
        bif Nat.ble (len+n) c then
          match get h.t id with
          | some (.cells cs sp)=>bif ones new then setC cs (off+len*sz) new (fun cs=>upd (some (.cells cs sp)) id h.t fun t=>nfNat (len+n) fun m=>k (.slc id off m sz (some c)) ⟨h.next,t,h.ro⟩) z else z
          | _=>z
        else match cellsAt h id with
          | some cs=>firstN (dropN cs off) (len*sz) (fun old=>newH h (.cells (old++new) true) fun h'=>nfNat (len+n) fun m=>k (.slc h.next 0 m sz none) h') z
          | none=>z
      | none => match get h.t id with
        | some (.cells cs sp) =>
          bif sp&&ones new&&Nat.beq off 0&&Nat.beq cs.length (len*sz)&&(get h.ro id).isNone then
            nfB (.cells (cs++new) true) fun b=>upd none id h.t fun t=>upd (some b) h.next t fun t=>nfP h.next.succ fun nx=>nfNat (len+n) fun m=>k (.slc h.next 0 m sz none) ⟨nx,t,h.ro⟩
          else z
        | _=>z
      else z
    | s=>match appendA h sz bytes s x with | some (v,h)=>k v h | none=>z) z
theorem appendC_eq (h : H) (sz bytes:Nat) (s x:AV) (k:AV→H→β) (z:β):appendC h sz bytes s x k z=match appendA h sz bytes s x with | some (v,h)=>k v h | none=>z:=by
  have hd:∀ (id:Pth) (t:Tr AB),Tr.upd none id t=t.del id:=fun _ _=>rfl
  cases hl:lenA x with
  | none=>simp only [appendC,appendA,hl]
  | some n =>
    cases hf:firstA h sz n x with
    | none=>simp only [appendC,appendA,hl,nfNat_eq,firstC_eq,hf]
    | some new =>
      cases s
      case nils =>
        simp only [appendC,appendA,hl,nfNat_eq,firstC_eq,hf,newH_eq]
        cases Nat.beq n 0<;>simp only [cond_true,cond_false]
        cases (Nat.ble bigBytes (n*bytes)||Nat.ble bigBytes n)<;>rfl
      case slc id off len sz' cap =>
        simp only [appendC,appendA,hl,nfNat_eq,firstC_eq,hf,newH_eq,get_eq,cellsAt_eq,setC_eq,upd_eq,hd,nfB_eq,nfP_eq,firstN_take]
        cases Nat.beq sz sz' with
        | false=>rfl
        | true =>
          simp only [cond_true]
          cases Nat.beq n 0 with
          | true=>rfl
          | false =>
            simp only [cond_false]
            cases (Nat.ble bigBytes ((len+n)*bytes)||Nat.ble bigBytes (len+n)) with
            | true=>rfl
            | false =>
              simp only [cond_false]
              cases cap with
              | some c =>
                simp only
                cases Nat.ble (len+n) c with
                | true =>
                  simp only [cond_true]
                  cases h.t.get id with
                  | none=>rfl
                  | some b =>
                    cases b<;>try rfl
                    rename_i cs sp
                    simp only
                    cases ones new with
                    | false=>rfl
                    | true =>
                      simp only [cond_true]
                      cases setAt cs (off+len*sz) new<;>rfl
                | false =>
                  simp only [cond_false]
                  cases h.cellsAt id with
                  | none=>rfl
                  | some cs =>
                    simp only
                    cases takeD cs off (len*sz)<;>rfl
              | none =>
                simp only
                cases h.t.get id with
                | none=>rfl
                | some b =>
                  cases b<;>try rfl
                  rename_i cs sp
                  simp only
                  cases (sp&&ones new&&Nat.beq off 0&&Nat.beq cs.length (len*sz)&&(h.ro.get id).isNone)<;>rfl
      all_goals simp only [appendC,hl,nfNat_eq,firstC_eq,hf]
noncomputable def stepC (h:H) (op:AOp) (vs:List AV) (k:AV→H→β) (q:ORes→β):β :=
  match op,vs with
  | .mov,[x]=>k x h
  | .load n,[a]=>loadC h n a (fun v=>k v h) (q .bad)
  | .store n,[a,v]=>storeC h n a v (fun h=>k (.tup []) h) (q .bad)
  | .append sz bytes false,[s,x]=>appendC h sz bytes s x k (q .bad)
  | .mapUpd kn,[.mapv id,key,v]=>match mapUpdA h kn (.mapv id) key v with
    | some _=>match get h.t id with
      | some (.amap es)=>setH h id (.amap (updA kn key v es)) fun h=>k (.tup []) h
      | _=>q .bad
    | none=>q .bad
  | op,vs=>bif isMaker op then
      match makeA op vs h.next with
      | some (v,b)=>nfV v fun v=>newH h b fun h=>k v h
      | none=>q .bad
    else match stepA h op vs with
      | .val v h=>nfV v fun v=>k v h
      | r=>q r
def ORes.to (r:ORes) (k:AV→H→β) (q:ORes→β):β :=
  match r with
  | .val v h=>k v h
  | r=>q r
theorem stepA_maker {h:H} {op:AOp} {vs:List AV} (hm:isMaker op=true):stepA h op vs=match makeA op vs h.next with | some (v,b)=>.val v (h.newB b) | none=>.bad:=by
  cases op<;>simp only [isMaker,Bool.false_eq_true] at hm<;>rfl
theorem stepC_eq (h:H) (op:AOp) (vs:List AV) (k:AV→H→β) (q:ORes→β):stepC h op vs k q=ORes.to (stepA h op vs) k q:=by
  unfold stepC
  split
  · rfl
  · rw [loadC_eq]
    simp only [stepA,isMaker,cond_false,readA]
    cases loadA h _ _<;>rfl
  · rw [storeC_eq]
    simp only [stepA]
    cases storeA h _ _ _<;>rfl
  · rw [appendC_eq]
    simp only [stepA]
    cases appendA h _ _ _ _<;>rfl
  · rename_i kn id key v
    simp only [stepA,get_eq,setH_eq]
    cases hm:mapUpdA h kn (.mapv id) key v with
    | none=>rfl
    | some h' =>
      simp only
      unfold mapUpdA at hm
      cases hko:keyOK kn key with
      | false=>rw [hko] at hm; cases hm
      | true =>
        rw [hko] at hm
        simp only [cond_true] at hm
        cases hg:h.t.get id with
        | none=>rw [hg] at hm; cases hm
        | some b =>
          rw [hg] at hm
          cases b
          case amap es =>
           simp only at hm ⊢
           cases hf:findA kn key es with
           | none=>rw [hf] at hm; cases hm
           | some r=>rw [hf] at hm; cases hm; rfl
          all_goals cases hm
  · cases hm:isMaker op with
    | true =>
      simp only [cond_true,nfV_eq,newH_eq]
      rw [stepA_maker hm]
      cases makeA op vs h.next with
      | none=>rfl
      | some p=>rfl
    | false =>
      simp only [cond_false,nfV_eq]
      cases stepA h op vs<;>rfl
end Go.Abs.F
end
section
namespace Go.Abs.F
variable {β:Type}
noncomputable def asInt (v:AV) (z:β) (k:IntKind→Int→β):β:=match v with | .int kd n=>k kd n | _=>z
noncomputable def asPtr (v:AV) (z:β) (k:Pth→Nat→β):β:=match v with | .ptr id off=>k id off | _=>z
section
variable (h:H) (vs:List AV) (k:AV→H→β) (q:ORes→β)
noncomputable def qMov:β:=match vs with | [x]=>k x h | vs=>stepC h .mov vs k q
noncomputable def qPick:β:=match vs with | [.bool c,a,b]=>bif c then k a h else k b h | vs=>stepC h .pick vs k q
noncomputable def qAlloc (z:List AV):β:=match vs with
  | []=>upd (some (.cells z false)) h.next h.t fun t=>nfP h.next.succ fun nx=>k (.ptr h.next 0) ⟨nx,t,h.ro⟩
  | vs=>stepC h (.alloc z) vs k q
noncomputable def qBox:β:=match vs with
  | [x]=>nfL x.cells fun cs=>upd (some (.cells cs false)) h.next h.t fun t=>nfP h.next.succ fun nx=>k (.ptr h.next 0) ⟨nx,t,h.ro⟩
  | vs=>stepC h .box vs k q
noncomputable def fillC (ps:List (Nat×Nat)):List AV→List AV→(List AV→β)→β→β :=
  List.rec (motive:=fun _=>List AV→List AV→(List AV→β)→β→β) (fun cs vs k z=>match vs with | []=>k cs | _=>z)
    (fun p _ ih cs vs k z=>match vs with
      | v::vs=>nfL v.cells fun vc=>bif Nat.beq vc.length p.2&&Nat.ble (p.1+p.2) cs.length then setC cs p.1 vc (fun cs=>ih cs vs k z) z else z
      | []=>z) ps
theorem fillC_eq:∀ (ps:List (Nat×Nat)) (cs vs:List AV) (k:List AV→β) (z:β),fillC ps cs vs k z=match fillA cs ps vs with | some l=>k l | none=>z
  | [],cs,[],k,z=>rfl
  | [],cs,v::vs,k,z=>rfl
  | (off,sz)::ps,cs,[],k,z=>rfl
  | (off,sz)::ps,cs,v::vs,k,z=>by
    show (nfL v.cells fun vc=>bif Nat.beq vc.length sz&&Nat.ble (off+sz) cs.length then setC cs off vc (fun cs=>fillC ps cs vs k z) z else z)=_
    simp only [nfL_eq,fillA,setC_eq]
    cases (Nat.beq v.cells.length sz&&Nat.ble (off+sz) cs.length) with
    | false=>rfl
    | true =>
      simp only [cond_true]
      cases setAt cs off v.cells with
      | none=>rfl
      | some cs'=>exact fillC_eq ps cs' vs k z
noncomputable def fillSC (sz:Nat) (ps:List Nat):List AV→List AV→(List AV→β)→β→β :=
  List.rec (motive:=fun _=>List AV→List AV→(List AV→β)→β→β) (fun cs vs k z=>match vs with | []=>k cs | _=>z)
    (fun i _ ih cs vs k z=>match vs with
      | v::vs=>nfL v.cells fun vc=>bif Nat.beq vc.length sz&&Nat.ble (i*sz+sz) cs.length then setC cs (i*sz) vc (fun cs=>ih cs vs k z) z else z
      | []=>z) ps
theorem fillSC_eq (sz:Nat):∀ (ps:List Nat) (cs vs:List AV) (k:List AV→β) (z:β),fillSC sz ps cs vs k z=match fillS sz cs ps vs with | some l=>k l | none=>z
  | [],cs,[],k,z=>rfl
  | [],cs,v::vs,k,z=>rfl
  | i::ps,cs,[],k,z=>rfl
  | i :: ps,cs,v::vs,k,z=>by
    show (nfL v.cells fun vc=>bif Nat.beq vc.length sz&&Nat.ble (i*sz+sz) cs.length then setC cs (i*sz) vc (fun cs=>fillSC sz ps cs vs k z) z else z)=_
    simp only [nfL_eq,fillS,setC_eq]
    cases (Nat.beq v.cells.length sz&&Nat.ble (i*sz+sz) cs.length) with
    | false=>rfl
    | true =>
      simp only [cond_true]
      cases setAt cs (i*sz) v.cells with
      | none=>rfl
      | some cs'=>exact fillSC_eq sz ps cs' vs k z
noncomputable def qBuild (z:List AV) (parts:List (Nat×Nat)):β:=fillC parts z vs (fun cs=>k (.agg cs) h) (q .bad)
noncomputable def qBuildSl (n sz:Nat) (z:List AV) (parts:List Nat):β :=
  fillSC sz parts z vs (fun cs=>upd (some (.cells cs false)) h.next h.t fun t=>nfP h.next.succ fun nx=>k (.slc h.next 0 n sz (some n)) ⟨nx,t,h.ro⟩) (q .bad)
noncomputable def qLoad (n:Option Nat):β:=match vs with | [a]=>loadC h n a (fun v=>k v h) (q .bad) | vs=>stepC h (.load n) vs k q
noncomputable def qStore (n:Nat):β:=match vs with | [a,v]=>storeC h n a v (fun h=>k (.tup []) h) (q .bad) | vs=>stepC h (.store n) vs k q
noncomputable def qFieldAddr (off:Nat):β:=match vs with
  | [a]=>asPtr a (stepC h (.fieldAddr off) vs k q) fun id o=>nfNat (o+off) fun o=>k (.ptr id o) h
  | vs=>stepC h (.fieldAddr off) vs k q
noncomputable def qField (off:Nat) (n:Option Nat):β:=match vs with
  | [.agg cs]=>partC cs off n (fun v=>k v h) (q .bad)
  | vs=>stepC h (.field off n) vs k q
noncomputable def qIndexAddr (ix:IxK):β:=match vs with
  | [x, i]=>match ix with
    | .slc sz=>match x with
      | .slc id off len sz' _=>asInt i (stepC h (.indexAddr ix) vs k q) fun _ n =>
        bif Nat.beq sz sz'&&leI 0 n&&ltI n (.ofNat len) then nfNat (off+n.toNat*sz) fun o=>k (.ptr id o) h else q .bad
      | _=>stepC h (.indexAddr ix) vs k q
    | .arr len sz=>match x with
      | .ptr id off=>asInt i (stepC h (.indexAddr ix) vs k q) fun _ n=>bif leI 0 n&&ltI n (.ofNat len) then nfNat (off+n.toNat*sz) fun o=>k (.ptr id o) h else q .bad
      | _=>stepC h (.indexAddr ix) vs k q
  | vs=>stepC h (.indexAddr ix) vs k q
noncomputable def qConv (c:ConvK):β:=match vs with
  | [x]=>match c with
    | .int kd=>asInt x (stepC h (.conv c) vs k q) fun _ n=>nfInt (wrapA kd n) fun n=>k (.int kd n) h
    | c=>stepC h (.conv c) [x] k q
  | vs=>stepC h (.conv c) vs k q
noncomputable def qUn (op:UnOp):β:=match vs with
  | [.bool b]=>match op with
    | .not=>bif b then k (.bool false) h else k (.bool true) h
    | op=>stepC h (.un op) vs k q
  | vs=>stepC h (.un op) vs k q
noncomputable def qCmp (b:Bool):β:=bif b then k (.bool true) h else k (.bool false) h
noncomputable def qArith (kd kd':IntKind) (n:Int):β:=bif eqK kd kd' then nfInt (wrapA kd n) fun n=>k (.int kd n) h else q .bad
noncomputable def qBin (op:BinOp) (e:EqK):β:=match vs with
  | [x,y]=>asInt x (stepC h (.bin op e) vs k q) fun kd a=>asInt y (stepC h (.bin op e) vs k q) fun kd' b=>match op with
    | .add=>qArith h k q kd kd' (a+b)
    | .sub=>qArith h k q kd kd' (a - b)
    | .mul=>qArith h k q kd kd' (a*b)
    | .lss=>bif eqK kd kd' then qCmp h k (ltI a b) else q .bad
    | .leq=>bif eqK kd kd' then qCmp h k (leI a b) else q .bad
    | .gtr=>bif eqK kd kd' then qCmp h k (ltI b a) else q .bad
    | .geq=>bif eqK kd kd' then qCmp h k (leI b a) else q .bad
    | .eql=>match e with | .one=>bif eqK kd kd' then qCmp h k (eqI a b) else q .bad | e=>stepC h (.bin .eql e) vs k q
    | .neq=>match e with | .one=>bif eqK kd kd' then qCmp h k (!(eqI a b)) else q .bad | e=>stepC h (.bin .neq e) vs k q
    | op=>stepC h (.bin op e) vs k q
  | vs=>stepC h (.bin op e) vs k q
noncomputable def qExtract (i:Nat):β:=match vs with
  | [.tup ts]=>nth ts i (fun v=>k v h) (q .bad)
  | vs=>stepC h (.extract i) vs k q
noncomputable def qMkFn (f:Pth) (n:Nat):β:=match n with
  | 0=>k (.fn f [] vs) h
  | n=>stepC h (.mkFn f n) vs k q
noncomputable def qLen (l:LenK):β:=match vs with
  | [v]=>match l,v with
    | .slc,.slc _ _ n _ _=>k (.int .i64 (.ofNat n)) h
    | l,v=>stepC h (.len l) [v] k q
  | vs=>stepC h (.len l) vs k q
noncomputable def qAppend (sz bytes:Nat) (zs:Bool):β:=match vs with
  | [s,x]=>bif zs then stepC h (.append sz bytes zs) vs k q else appendC h sz bytes s x k (q .bad)
  | vs=>stepC h (.append sz bytes zs) vs k q
noncomputable def qCall:β:=match vs with
  | f::as=>q (.call f as)
  | []=>stepC h .call [] k q
noncomputable def qMkIface (t:TypeId):β:=match vs with
  | [x]=>k (.iface t x) h
  | vs=>stepC h (.mkIface t) vs k q
end
noncomputable def stepQ (h:H) (op:AOp) (vs:List AV) (k:AV→H→β) (q:ORes→β):β :=
  AOp.casesOn (motive:=fun _=>β) op
    (mov:=qMov h vs k q) (pick:=qPick h vs k q) (alloc:=fun z=>qAlloc h vs k q z) (box:=qBox h vs k q) (build:=fun z ps=>qBuild h vs k q z ps) (buildSl:=fun n sz z ps=>qBuildSl h vs k q n sz z ps)
    (load:=fun n=>qLoad h vs k q n) (store:=fun n=>qStore h vs k q n) (nilCheck:=stepC h .nilCheck vs k q) (bin:=fun o e=>qBin h vs k q o e) (un:=fun o=>qUn h vs k q o) (conv:=fun c=>qConv h vs k q c)
    (toBytes:=stepC h .toBytes vs k q) (mkIface:=fun t=>qMkIface h vs k q t) (mkFn:=fun f n=>qMkFn h vs k q f n) (mkMap:=stepC h .mkMap vs k q) (mkSlice:=fun z b=>stepC h (.mkSlice z b) vs k q)
    (slice:=fun s a b c=>stepC h (.slice s a b c) vs k q) (fieldAddr:=fun o=>qFieldAddr h vs k q o) (field:=fun o n=>qField h vs k q o n) (indexAddr:=fun i=>qIndexAddr h vs k q i) (indexArr:=fun a b c=>stepC h (.indexArr a b c) vs k q)
    (indexStr:=stepC h .indexStr vs k q) (lookup:=fun a b c=>stepC h (.lookup a b c) vs k q) (mapUpd:=fun a=>stepC h (.mapUpd a) vs k q) (rangeStr:=stepC h .rangeStr vs k q) (rangeMap:=stepC h .rangeMap vs k q)
    (next:=fun b=>stepC h (.next b) vs k q) (entry:=stepC h .entry vs k q) (assertTo:=fun a b c=>stepC h (.assertTo a b c) vs k q) (extract:=fun i=>qExtract h vs k q i) (append:=fun a b c=>qAppend h vs k q a b c)
    (copy:=fun n=>stepC h (.copy n) vs k q) (len:=fun l=>qLen h vs k q l) (cap:=fun c=>stepC h (.cap c) vs k q) (min:=stepC h .min vs k q) (max:=stepC h .max vs k q) (recover:=stepC h .recover vs k q) (panic:=stepC h .panic vs k q)
    (call:=qCall h vs k q) (invoke:=fun t=>stepC h (.invoke t) vs k q) (defer:=stepC h .defer vs k q)
section
variable (h:H) (vs:List AV) (k:AV→H→β) (q:ORes→β)
theorem stepC_read {op:AOp} (_hm:isMaker op=false) (hr:stepA h op vs=match readA h op vs with | some v=>.val v h | none=>.bad):stepC h op vs k q=match readA h op vs with | some v=>k v h | none=>q .bad:=by
  rw [stepC_eq,hr]
  cases readA h op vs<;>rfl
theorem qBin_eq (op:BinOp) (e:EqK):qBin h vs k q op e=stepC h (.bin op e) vs k q:=by
  unfold qBin
  split
  · rename_i x y
    cases x<;>simp only [asInt]
    rename_i kd a
    cases y<;>simp only
    rename_i kd' b
    have hst:=stepC_read h [.int kd a,.int kd' b] k q (op:=.bin op e) rfl rfl
    have cmp:∀ b:Bool,qCmp h k b=k (.bool b) h:=fun b=>by cases b<;>rfl
    cases op<;>simp only
    case eql=>cases e<;>simp only<;>(rw [hst]; simp only [readA,binAV,eqAV,cmp]; cases eqK kd kd'<;>rfl)
    case neq=>cases e<;>simp only<;>(rw [hst]; simp only [readA,binAV,eqAV,cmp]; cases eqK kd kd'<;>rfl)
    all_goals (rw [hst]; simp only [readA,binAV,qArith,nfInt_eq,cmp]; cases eqK kd kd'<;>rfl)
  · rfl
theorem stepQ_eq (op:AOp):stepQ h op vs k q=stepC h op vs k q:=by
  cases op<;>try rfl
  case mov =>
    show qMov h vs k q=_
    unfold qMov; split<;>rfl
  case pick =>
    show qPick h vs k q=_
    unfold qPick; split
    · rename_i c a b
      rw [stepC_read h _ k q rfl rfl]
      cases c<;>rfl
    · rfl
  case alloc z =>
    show qAlloc h vs k q z=_
    unfold qAlloc; split
    · rw [stepC_eq,stepA_maker rfl]
      simp only [upd_put,nfP_eq]; rfl
    · rfl
  case box =>
    show qBox h vs k q=_
    unfold qBox; split
    · rw [stepC_eq,stepA_maker rfl]
      simp only [nfL_eq,upd_put,nfP_eq]; rfl
    · rfl
  case build z ps =>
    show qBuild h vs k q z ps=_
    unfold qBuild
    rw [fillC_eq,stepC_read h vs k q rfl (by cases vs<;>rfl)]
    show _=match (fillA z ps vs).map AV.agg with | some v=>k v h | none=>q .bad
    cases fillA z ps vs<;>rfl
  case buildSl n sz z ps =>
    show qBuildSl h vs k q n sz z ps=_
    unfold qBuildSl
    rw [fillSC_eq,stepC_eq,stepA_maker rfl]
    simp only [makeA,upd_put,nfP_eq]
    cases fillS sz z ps vs<;>rfl
  case load n =>
    show qLoad h vs k q n=_
    unfold qLoad; split<;>rfl
  case store n =>
    show qStore h vs k q n=_
    unfold qStore; split<;>rfl
  case bin op e=>exact qBin_eq h vs k q op e
  case un op =>
    show qUn h vs k q op=_
    unfold qUn; split
    · rename_i b
      cases op<;>try rfl
      rw [stepC_read h _ k q rfl rfl]
      cases b<;>rfl
    · rfl
  case conv c =>
    show qConv h vs k q c=_
    unfold qConv; split
    · rename_i x
      cases c<;>try rfl
      rename_i kd
      cases x<;>try rfl
    · rfl
  case mkIface t =>
    show qMkIface h vs k q t=_
    unfold qMkIface; split
    · rw [stepC_read h _ k q rfl rfl]; rfl
    · rfl
  case mkFn f n =>
    show qMkFn h vs k q f n=_
    unfold qMkFn; split
    · rw [stepC_read h vs k q rfl (by cases vs<;>rfl)]
      have:readA h (.mkFn f 0) vs=some (.fn f [] vs):=by cases vs<;>rfl
      rw [this]
    · rfl
  case fieldAddr off =>
    show qFieldAddr h vs k q off=_
    unfold qFieldAddr; split
    · rename_i a
      cases a<;>try rfl
    · rfl
  case field off n =>
    show qField h vs k q off n=_
    unfold qField; split
    · rename_i cs
      rw [partC_eq,stepC_read h _ k q rfl rfl]; rfl
    · rfl
  case indexAddr ix =>
    show qIndexAddr h vs k q ix=_
    unfold qIndexAddr; split
    · rename_i x i
      cases ix with
      | slc sz =>
        cases x<;>try rfl
        cases i<;>try rfl
        rename_i id off len sz' cap kd n
        simp only [asInt,nfNat_eq]
        rw [stepC_read h _ k q rfl rfl]
        simp only [readA,indexAddrA]
        cases (Nat.beq sz sz'&&leI 0 n&&ltI n (.ofNat len))<;>rfl
      | arr len sz =>
        cases x<;>try rfl
        cases i<;>try rfl
        rename_i id off kd n
        simp only [asInt,nfNat_eq]
        rw [stepC_read h _ k q rfl rfl]
        simp only [readA,indexAddrA]
        cases (leI 0 n&&ltI n (.ofNat len))<;>rfl
    · rfl
  case extract i =>
    show qExtract h vs k q i=_
    unfold qExtract; split
    · rename_i ts
      rw [nth_eq,stepC_read h _ k q rfl rfl]
      show _=match ts[i]? with | some v=>k v h | none=>q .bad
      cases ts[i]?<;>rfl
    · rfl
  case append sz bytes zs =>
    show qAppend h vs k q sz bytes zs=_
    unfold qAppend; split
    · cases zs<;>rfl
    · rfl
  case len l =>
    show qLen h vs k q l=_
    unfold qLen; split
    · rename_i v
      cases l<;>try rfl
      cases v<;>try rfl
      rw [stepC_read h _ k q rfl rfl]; rfl
    · rfl
  case call =>
    show qCall h vs k q=_
    unfold qCall; split
    · rw [stepC_eq]; rfl
    · rfl
end
end Go.Abs.F
end
section
namespace Go.Abs.F
variable {β:Type}
abbrev CallC (β:Type):=AV→List AV→H→(CRes→β)→β
abbrev CallDC (β:Type):=AV→List AV→Md→H→(DRes→β)→β
abbrev Kn (β:Type):=Tr AV→H→Rest→β
def Out.to (o:Out) (k:Kn β) (q:Out→β):β :=
  match o with
  | .nrm s=>k s.fr s.h (rest s)
  | o=>q o
theorem put_k (d:Option Pth) (v:AV) (fr:Tr AV) (h:H) (r:Rest) (k:Kn β):putC d v fr (fun fr=>k fr h r)=k ((mk fr h r).put d v).fr ((mk fr h r).put d v).h (rest ((mk fr h r).put d v)) :=
  putC_eq d v fr h r (fun s=>k s.fr s.h (rest s))
noncomputable def oneC (call:CallC β) (o:AOper) (vs:List AV) (fr:Tr AV) (h:H) (r:Rest) (k:Kn β) (q:Out→β):β :=
  stepQ h o.op vs (fun v h=>putC o.dst v fr fun fr=>k fr h r) (fun x =>
    match x with
    | .call f as=>call f as h (fun c=>match c with
      | .ret v h=>putC o.dst v fr fun fr=>k fr h r
      | .panic v h=>q (.panic v (mk fr h r))
      | .bad n=>q (.bad n))
    | .defer f as=>match r.rd with
      | none=>putC o.dst (.tup []) fr fun fr=>k fr h ⟨.call f as::r.df,r.rc,none,r.fnid⟩
      | some _=>q (.bad 3)
    | .recover=>match r.rd with
      | some _=>q (.bad 6)
      | none=>match r.rc with
        | .pan v=>putC o.dst v fr fun fr=>k fr h ⟨r.df,.recovered,none,r.fnid⟩
        | rc=>putC o.dst .nili fr fun fr=>k fr h ⟨r.df,rc,none,r.fnid⟩
    | .panic v h=>q (.panic v (mk fr h r))
    | _=>q (.bad 4))
def CallEq (callC:CallC β) (call:CallF):Prop:=∀ f as h k,callC f as h k=k (call f as h)
section
variable {callC:CallC β} {call:CallF} (hc:CallEq callC call)
include hc
theorem oneC_eq (o:AOper) (vs:List AV) (fr:Tr AV) (h:H) (r:Rest) (k:Kn β) (q:Out→β):oneC callC o vs fr h r k q=Out.to (oneA call (mk fr h r) o vs) k q:=by
  obtain ⟨df,rc,rd,fnid⟩:=r
  unfold oneC
  rw [stepQ_eq,stepC_eq]
  simp only [oneA,mk]
  cases stepA h o.op vs with
  | val v h'=>simp only [ORes.to,put_k]; rfl
  | call f as =>
    simp only [ORes.to]
    rw [hc]
    cases call f as h with
    | ret v h'=>simp only [put_k]; rfl
    | panic v h'=>rfl
    | bad n=>rfl
  | defer f as =>
    simp only [ORes.to,put_k]
    cases rd<;>rfl
  | recover =>
    simp only [ORes.to,put_k]
    cases rd with
    | some _=>rfl
    | none=>cases rc<;>rfl
  | panic v h'=>rfl
  | bad=>rfl
end
noncomputable def wantC (fr:Tr AV) (g:Option (Pth×Bool)) (zn zf zt:β):β :=
  match g with
  | none=>zt
  | some (t,want)=>match get fr t with
    | some (.bool b)=>bif b==want then zt else zf
    | some (.tup [])=>zf
    | _=>zn
theorem wantC_eq (fr:Tr AV) (g:Option (Pth×Bool)) (zn zf zt:β):wantC fr g zn zf zt=match wantedA fr g with | none=>zn | some false=>zf | some true=>zt:=by
  cases g with
  | none=>rfl
  | some p =>
    obtain ⟨t,want⟩:=p
    simp only [wantC,wantedA,get_eq]
    cases fr.get t with
    | none=>rfl
    | some v =>
      cases v<;>try rfl
      · rename_i b
        simp only
        cases b==want<;>rfl
      · rename_i l
        cases l<;>rfl
noncomputable def opsC (X:Ctx) (call:CallC β) (ops:List AOper):Kn (Kn β→(Out→β)→β) :=
  List.rec (motive:=fun _=>Kn (Kn β→(Out→β)→β)) (fun fr h r k _=>k fr h r)
    (fun o _ ih fr h r k q=>wantC fr o.guard (q (.bad 1)) (putC o.dst (.tup []) fr fun fr=>ih fr h r k q)
      (evalL X fr o.args (q (.bad 2)) fun vs=>oneC call o vs fr h r (fun fr h r=>ih fr h r k q) q)) ops
noncomputable def withPC (ps:List Pend):H→(H→β)→β :=
  List.rec (motive:=fun _=>H→(H→β)→β) (fun h k=>k h) (fun p _ ih h k=>upd (some p.b) p.id h.t fun t=>ih ⟨h.next,t,h.ro⟩ k) ps
theorem withPC_eq:∀ (ps:List Pend) (h:H) (k:H→β),withPC ps h k=k (h.withP ps)
  | [],h,k=>rfl
  | p::ps,h,k=>by
    show upd (some p.b) p.id h.t (fun t=>withPC ps ⟨h.next,t,h.ro⟩ k)=_
    rw [upd_put,withPC_eq ps]
    rfl
noncomputable def readC (h:H) (op:AOp) (vs:List AV) (k:AV→β) (z:β):β :=
  match op,vs with
  | .mov,[x]=>k x
  | .load n,[a]=>loadC h n a k z
  | op,vs=>match readA h op vs with
    | some v=>nfV v k
    | none=>z
theorem readC_eq (h:H) (op:AOp) (vs:List AV) (k:AV→β) (z:β):readC h op vs k z=match readA h op vs with | some v=>k v | none=>z:=by
  unfold readC
  split
  · rfl
  · rw [loadC_eq]
    simp only [readA]
    all_goals (cases loadA h _ _<;>rfl)
  · simp only [nfV_eq]
abbrev Kd (β:Type):=Tr AV→H→Rest→List (Nat×H)→List Pend→List Log→β
def DOut.to (o:DOut) (k:Kd β) (q:Out→β):β :=
  match o with
  | .done d=>k d.s.fr d.s.h (rest d.s) d.hs d.pend d.log
  | .out o=>q o
noncomputable def dstepC (X:Ctx) (call:CallC β) (o:DOper) (i:Nat) (id:Pth) (fr:Tr AV) (h:H) (r:Rest) (hs:List (Nat×H)) (pend:List Pend) (log:List Log) (k:Kd β) (q:Out→β):β :=
  wantC fr o.o.guard (q (.bad 11))
    (putC o.o.dst (.tup []) fr fun fr=>bif o.chain then k fr h r ((i,h)::hs) pend log else k fr h r hs pend log)
    (evalL X fr o.o.args (q (.bad 12)) fun vs =>
      bif o.chain then
        nfL (takesP o.makers pend) fun tk=>withPC tk h fun h'=>oneC call o.o vs fr h' r
          (fun fr h' r=>bif o.last||quiet o.o.op then nfL (leavesP o.makers pend) fun pend=>k fr h' r ((i,h)::hs) pend log else q (.bad 18))
          (fun out=>match out with
            | .panic v s=>bif o.last&&log.all (fun l=>recheck l ((i,h)::hs)) then q (.panic v s) else q (.bad 13)
            | .bad n=>q (.bad n)
            | _=>q (.bad 14))
      else bif isMaker o.o.op then
        match makeA o.o.op vs id with
        | some (v,b)=>nfV v fun v=>nfB b fun b=>putC o.o.dst v fr fun fr=>k fr h r hs (⟨i,id,b⟩::pend) log
        | none=>q (.bad 17)
      else
        nfL (takesP o.makers pend) fun tk=>withPC tk h fun h'=>readC h' o.o.op vs (fun v=>putC o.o.dst v fr fun fr =>
          bif seesHeap o.o.op&&o.wide then k fr h r hs pend (⟨o.o.op,vs,v,o.lo,o.hi,tk⟩::log) else k fr h r hs pend log) (q (.bad 19)))
section
variable {callC:CallC β} {call:CallF} (hc:CallEq callC call)
include hc
theorem opsC_eq (X:Ctx):∀ (ops:List AOper) (fr:Tr AV) (h:H) (r:Rest) (k:Kn β) (q:Out→β),opsC X callC ops fr h r k q=Out.to (opsA X call ops (mk fr h r)) k q
  | [],fr,h,r,k,q=>rfl
  | o :: ops,fr,h,r,k,q=>by
    show wantC fr o.guard (q (.bad 1)) (putC o.dst (.tup []) fr fun fr=>opsC X callC ops fr h r k q)
      (evalL X fr o.args (q (.bad 2)) fun vs=>oneC callC o vs fr h r (fun fr h r=>opsC X callC ops fr h r k q) q)=_
    have ih:=opsC_eq X ops
    rw [wantC_eq,evalL_eq]
    simp only [opsA]
    show _=Out.to (match wantedA fr o.guard with | none=>_ | some false=>_ | some true=>_) k q
    cases wantedA fr o.guard with
    | none=>rfl
    | some b =>
      cases b with
      | false =>
        simp only [ih]
        exact putC_eq o.dst (.tup []) fr h r (fun s=>Out.to (opsA X call ops s) k q)
      | true =>
        show (match evalAll X fr o.args with | some vs=>_ | none=>_)=Out.to (match evalAll X fr o.args with | none=>_ | some vs=>_) k q
        cases evalAll X fr o.args with
        | none=>rfl
        | some vs =>
          simp only [oneC_eq hc]
          cases h1:oneA call (mk fr h r) o vs with
          | nrm s=>simp only [Out.to]; rw [ih]; rfl
          | _=>rfl
theorem dstepC_eq (X:Ctx) (o:DOper) (i:Nat) (id:Pth) (fr:Tr AV) (h:H) (r:Rest) (hs:List (Nat×H)) (pend:List Pend) (log:List Log) (k:Kd β) (q:Out→β) :
    dstepC X callC o i id fr h r hs pend log k q=DOut.to (dstep X call o i id ⟨mk fr h r,hs,pend,log⟩) k q:=by
  unfold dstepC dstep
  rw [wantC_eq,evalL_eq]
  show _=DOut.to (match wantedA fr o.o.guard with | none=>_ | some false=>_ | some true=>_) k q
  cases wantedA fr o.o.guard with
  | none=>rfl
  | some b =>
    cases b with
    | false =>
      simp only
      cases o.chain with
      | true =>
        simp only [cond_true]
        exact putC_eq o.o.dst (.tup []) fr h r (fun s=>k s.fr s.h (rest s) ((i,h)::hs) pend log)
      | false =>
        simp only [cond_false]
        exact putC_eq o.o.dst (.tup []) fr h r (fun s=>k s.fr s.h (rest s) hs pend log)
    | true =>
      show (match evalAll X fr o.o.args with | some vs=>_ | none=>_)=DOut.to (match evalAll X fr o.o.args with | none=>_ | some vs=>_) k q
      cases evalAll X fr o.o.args with
      | none=>rfl
      | some vs =>
        simp only
        cases o.chain with
        | true =>
          simp only [cond_true,nfL_eq,withPC_eq,oneC_eq hc]
          show Out.to (oneA call (mk fr (h.withP (takesP o.makers pend)) r) o.o vs) _ _=DOut.to (match oneA call (mk fr (h.withP (takesP o.makers pend)) r) o.o vs with | .nrm s=>_ | .panic v s=>_ | .bad n=>_ | _=>_) k q
          cases oneA call (mk fr (h.withP (takesP o.makers pend)) r) o.o vs with
          | nrm s =>
            simp only [Out.to]
            cases (o.last||quiet o.o.op)<;>rfl
          | panic v s =>
            simp only [Out.to]
            show _=DOut.to (bif o.last&&log.all (fun l=>recheck l ((i,h)::hs)) then _ else _) k q
            cases (o.last&&log.all (fun l=>recheck l ((i,h)::hs)))<;>rfl
          | exit _ _=>rfl
          | ret _=>rfl
          | bad n=>rfl
        | false =>
          simp only [cond_false]
          cases isMaker o.o.op with
          | true =>
            simp only [cond_true]
            cases makeA o.o.op vs id with
            | none=>rfl
            | some p =>
              obtain ⟨v,b⟩:=p
              simp only [nfV_eq,nfB_eq]
              exact putC_eq o.o.dst v fr h r (fun s=>k s.fr s.h (rest s) hs (⟨i,id,b⟩::pend) log)
          | false =>
            simp only [cond_false,nfL_eq,withPC_eq,readC_eq]
            show (match readA (h.withP (takesP o.makers pend)) o.o.op vs with | some v=>_ | none=>_)=DOut.to (match readA (h.withP (takesP o.makers pend)) o.o.op vs with | some v=>_ | none=>_) k q
            cases readA (h.withP (takesP o.makers pend)) o.o.op vs with
            | none=>rfl
            | some v =>
              simp only
              cases (seesHeap o.o.op&&o.wide) with
              | true =>
                simp only [cond_true]
                exact putC_eq o.o.dst v fr h r (fun s=>k s.fr s.h (rest s) hs pend (⟨o.o.op,vs,v,o.lo,o.hi,takesP o.makers pend⟩::log))
              | false =>
                simp only [cond_false]
                exact putC_eq o.o.dst v fr h r (fun s=>k s.fr s.h (rest s) hs pend log)
end
noncomputable def dopsC (X:Ctx) (call:CallC β) (ds:List DOper):Nat→Pth→Kd (Kd β→(Out→β)→β) :=
  List.rec (motive:=fun _=>Nat→Pth→Kd (Kd β→(Out→β)→β)) (fun _ _ fr h r hs pend log k _=>k fr h r hs pend log)
    (fun o _ ih i id fr h r hs pend log k q=>dstepC X call o i id fr h r hs pend log (fun fr h r hs pend log=>nfP id.succ fun id=>ih (Nat.succ i) id fr h r hs pend log k q) q) ds
noncomputable def dregC (X:Ctx) (call:CallC β) (ops:List DOper) (fr:Tr AV) (h:H) (r:Rest) (k:Kn β) (q:Out→β):β :=
  nfP (skipIds ops.length h.next) fun nx=>dopsC X call ops 0 h.next fr ⟨nx,h.t,h.ro⟩ r [] [] []
    (fun fr h r hs pend log=>bif log.all (fun l=>recheck l ((ops.length,h)::hs)) then withPC pend h fun h=>k fr h r else q (.bad 21)) q
section
variable {callC:CallC β} {call:CallF} (hc:CallEq callC call)
include hc
theorem dopsC_eq (X:Ctx):∀ (ds:List DOper) (i:Nat) (id:Pth) (fr:Tr AV) (h:H) (r:Rest) (hs:List (Nat×H)) (pend:List Pend) (log:List Log) (k:Kd β) (q:Out→β),
    dopsC X callC ds i id fr h r hs pend log k q=DOut.to (dopsA X call ds i id ⟨mk fr h r,hs,pend,log⟩) k q
  | [],i,id,fr,h,r,hs,pend,log,k,q=>rfl
  | o::ds,i,id,fr,h,r,hs,pend,log,k,q=>by
    show dstepC X callC o i id fr h r hs pend log (fun fr h r hs pend log=>nfP id.succ fun id=>dopsC X callC ds (Nat.succ i) id fr h r hs pend log k q) q=_
    have ih:=dopsC_eq X ds
    rw [dstepC_eq hc]
    simp only [nfP_eq,ih,dopsA]
    cases dstep X call o i id ⟨mk fr h r,hs,pend,log⟩ with
    | done d=>rfl
    | out o=>rfl
theorem dregC_eq (X:Ctx) (ops:List DOper) (fr:Tr AV) (h:H) (r:Rest) (k:Kn β) (q:Out→β):dregC X callC ops fr h r k q=Out.to (dregA X call ops (mk fr h r)) k q:=by
  unfold dregC dregA
  rw [nfP_eq,dopsC_eq hc]
  show DOut.to (dopsA X call ops 0 h.next ⟨mk fr ⟨skipIds ops.length h.next,h.t,h.ro⟩ r,[],[],[]⟩) _ q=Out.to (match dopsA X call ops 0 h.next ⟨mk fr ⟨skipIds ops.length h.next,h.t,h.ro⟩ r,[],[],[]⟩ with | .out r=>_ | .done d=>_) k q
  cases hd:dopsA X call ops 0 h.next ⟨mk fr ⟨skipIds ops.length h.next,h.t,h.ro⟩ r,[],[],[]⟩ with
  | out o =>
    simp only [DOut.to]
    cases o with
    | nrm s =>
      exfalso
      have : ∀ (ds:List DOper) (i:Nat) (id:Pth) (d:DSt) (s:St),dopsA X call ds i id d≠.out (.nrm s):=by
        intro ds
        induction ds with
        | nil=>intro i id d s h; cases h
        | cons o ds ih =>
          intro i id d s h
          simp only [dopsA] at h
          cases hst:dstep X call o i id d with
          | done d'=>rw [hst] at h; exact ih _ _ _ _ h
          | out r =>
            rw [hst] at h
            cases h
            rcases dstep_out hst with ⟨n,e⟩ | ⟨vs,v,s',e,_⟩<;>cases e
      exact this _ _ _ _ _ hd
    | _=>rfl
  | done d =>
    simp only [DOut.to,withPC_eq]
    cases d.log.all (fun l=>recheck l ((ops.length,d.s.h)::d.hs))<;>rfl
end
end Go.Abs.F
end
