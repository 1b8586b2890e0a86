/- A part of the proof that LibSwaps answers true at every input: AbsGood, AbsCtx, AbsFast, AbsFast2, AbsFastOp, AbsFast3. -/
import Derived.Test.YtaendaokfclnoaaGreatDoorC14
import Derived.Test.YtaendaokfclnoaaGreatDoorC01
import Derived.Test.YtaendaokfclnoaaGreatDoorC12
import Derived.Test.YtaendaokfclnoaaGreatDoorC04
noncomputable section
section
section
namespace Go.Abs
variable [envI:Env]
def Good (P:Program) (i:Pth) (F:AFunc):Prop :=
  ∃ fn body,P.funcs[i.num]? = some fn ∧ fn.body = some body ∧ (fn.name == "runtime.NumGoroutine") = false ∧ nG P fn = some F
omit envI in
theorem gd {P : Program} {i : Pth} {F : AFunc} {fn : Func} (hf : P.funcs[i.num]? = some fn) (h : (fn.body.isSome && !(fn.name == "runtime.NumGoroutine"),nG P fn) = (true,some F)) : Good P i F := by
  rw [Prod.mk.injEq,Bool.and_eq_true,Bool.not_eq_true'] at h
  obtain ⟨body,hb⟩:=Option.isSome_iff_exists.1 h.1.1
  exact ⟨fn,body,hf,hb,h.1.2,h.2⟩
inductive All {α:Type} (Q:Pth→α→Prop):Tr α→(Pth→Pth)→Prop
  | f {c:Pth→Pth}:All Q .lf c
  | s {l r:Tr α} {a:α} {c:Pth→Pth} (h:Q (c .e) a) (hl:All Q l (fun p=>c (.l p))) (hr:All Q r (fun p=>c (.r p))):All Q (.nd l (some a) r) c
  | n {l r:Tr α} {c:Pth→Pth} (hl:All Q l (fun p=>c (.l p))) (hr:All Q r (fun p=>c (.r p))):All Q (.nd l none r) c
omit envI in
theorem All.get {α:Type} {Q:Pth→α→Prop} {t:Tr α} {c:Pth→Pth} (h:All Q t c):∀ {p:Pth} {a:α},t.get p=some a→Q (c p) a:=by
  induction h with
  | f=>intro p a e; cases p<;>cases e
  | s h _ _ ihl ihr =>
    intro p a e
    cases p with
    | e=>cases e; exact h
    | l p=>exact ihl e
    | r p=>exact ihr e
  | n _ _ ihl ihr =>
    intro p a e
    cases p with
    | e=>cases e
    | l p=>exact ihl e
    | r p=>exact ihr e
def xL0:List (AV×AV)→AV→Option AV
  | [],_=>none
  | (a,v)::t,x=>bif AV.beq a x then some v else xL0 t x
def xT8 (f:Pth) (tbl:List (AV×AV)) (more:Pth→List AV→H→Option AV) (i:Pth) (args:List AV) (h:H):Option AV :=
  bif Pth.beq i f then (match args with | [p]=>xL0 tbl (deep 8 h p) | _=>none) else more i args h
omit envI in
theorem xJy:∀ {t:List (AV×AV)} {x v:AV},xL0 t x=some v→(x,v)∈t
  | [],x,v,h=>by cases h
  | (a,b)::t,x,v,h=>by
    simp only [xL0] at h
    cases hb:AV.beq a x with
    | true=>rw [hb] at h; cases h; rw [AV.beq_eq _ _ hb]; exact List.mem_cons_self
    | false=>rw [hb] at h; exact List.mem_cons_of_mem _ (xJy h)
def jH (P:Program) (X:Ctx) (s:Pth→List AV→H→Option AV):Prop :=
  ∀ i args h v,s i args h=some v→∀ ρ w (avs:Array Value),HR P X ρ h w→VRs w ρ (Lv ρ h) args avs.toList→mS P X ρ h w (callFunc i.num avs) (.ret v h)
def Row (X0:Ctx) (f:Pth) (e:AV×AV):Prop:=frz e.1=true∧qQ e.2=true∧∃ n h1,xC X0 n (.fn f [] []) [e.1] h0=.ret e.2 h1
theorem xYc {P:Program} {X X0:Ctx} (xo:XOK P X0) (hg:X0.globs=.lf) {f:Pth} {tbl:List (AV×AV)} {more:Pth→List AV→H→Option AV} (ht:∀ e∈tbl,Row X0 f e) (hm:jH P X more):jH P X (xT8 f tbl more):=by
  intro i args h v hs ρ w avs hr hv
  unfold xT8 at hs
  cases hi:Pth.beq i f with
  | false=>rw [hi] at hs; exact hm i args h v hs ρ w avs hr hv
  | true =>
    rw [hi] at hs
    simp only [cond_true] at hs
    match args,hs with
    | [p],hs =>
      obtain ⟨h1,h2,n,h',h3⟩:=ht _ (xJy hs)
      rw [Pth.beq_iff.1 hi]
      exact xAb xo hg (args0:=[deep 8 h p]) (d:=8) h3 h2 (by simp only [frzs,h1,Bool.and_true]) rfl hr hv
theorem kX {P:Program} {X:Ctx}:jH P X (fun _ _ _=>none):=fun _ _ _ _ h=>by cases h
def isV (v:AV):CRes→Bool
  | .ret a _=>AV.beq a v
  | _=>false
omit envI in
theorem zA3 {v:AV} {r:CRes} (h:isV v r=true):∃ h',r=.ret v h':=by
  cases r with
  | ret a h'=>exact ⟨h',by rw [AV.beq_eq _ _ h]⟩
  | panic _ _=>cases h
  | bad _=>cases h
end Go.Abs
end
section
namespace Go.Abs
variable [envI:Env]
def xF7 (X:Ctx) (N:Nat) (fz dp:Pth→Bool) (more:Pth→List AV→H→Option AV) (i:Pth) (args:List AV) (h:H):Option AV :=
  bif fz i then
    (match xC X N (.fn i [] []) args h0 with
      | .ret v h1=>bif frzs args&&frz (deep 8 h1 v) then some (deep 8 h1 v) else none
      | _=>none)
  else bif dp i then
    (match xC X N (.fn i [] []) (args.map (deep 8 h)) h0 with
      | .ret v _=>bif frzs (args.map (deep 8 h))&&qQ v then some v else none
      | _=>none)
  else more i args h
theorem xQr {P:Program} {X X0:Ctx} (xo:XOK P X0) (hg:X0.globs=.lf) {N:Nat} {fz dp:Pth→Bool} {more:Pth→List AV→H→Option AV} (hm:jH P X more):jH P X (xF7 X0 N fz dp more):=by
  intro i args h v hs ρ w avs hr hv
  unfold xF7 at hs
  cases hf:fz i with
  | true =>
    rw [hf] at hs
    simp only [cond_true] at hs
    cases hc:xC X0 N (.fn i [] []) args h0 with
    | ret v1 h1 =>
      rw [hc] at hs
      simp only at hs
      cases hb:(frzs args&&frz (deep 8 h1 v1)) with
      | false=>rw [hb] at hs; cases hs
      | true =>
        rw [hb] at hs
        cases hs
        simp only [Bool.and_eq_true] at hb
        exact xBc xo hg hc hb.1 hb.2 hr hv
    | panic _ _=>rw [hc] at hs; cases hs
    | bad _=>rw [hc] at hs; cases hs
  | false =>
    rw [hf] at hs
    simp only [cond_false] at hs
    cases hd:dp i with
    | true =>
      rw [hd] at hs
      simp only [cond_true] at hs
      cases hc:xC X0 N (.fn i [] []) (args.map (deep 8 h)) h0 with
      | ret v1 h1 =>
        rw [hc] at hs
        simp only at hs
        cases hb:(frzs (args.map (deep 8 h))&&qQ v1) with
        | false=>rw [hb] at hs; cases hs
        | true =>
          rw [hb] at hs
          cases hs
          simp only [Bool.and_eq_true] at hb
          exact xAb xo hg hc hb.2 hb.1 rfl hr hv
      | panic _ _=>rw [hc] at hs; cases hs
      | bad _=>rw [hc] at hs; cases hs
    | false =>
      rw [hd] at hs
      exact hm i args h v hs ρ w avs hr hv
def lev (X:Ctx) (N:Nat) (fz dp:Pth→Bool):Nat→Ctx
  | 0=>X
  | n+1=>{ X with sums:=xF7 (lev X N fz dp n) N fz dp X.sums }
end Go.Abs
end
section
namespace Go.Abs.F
universe u
variable {β:Type}
noncomputable def bO (n:Nat) (k:Nat→β):β:=Nat.rec (motive:=fun _=>β) (k 0) (fun m _=>k (Nat.succ m)) n
theorem pF (n:Nat) (k:Nat→β):bO n k=k n:=by cases n<;>rfl
noncomputable def xQd (n:Int) (k:Int→β):β:=Int.rec (motive:=fun _=>β) (fun m=>bO m (fun m=>k (.ofNat m))) (fun m=>bO m (fun m=>k (.negSucc m))) n
theorem xNg (n:Int) (k:Int→β):xQd n k=k n:=by cases n<;>simp [xQd,pF]
noncomputable def xXl (b:Bool) (k:Bool→β):β:=Bool.rec (motive:=fun _=>β) (k false) (k true) b
theorem xQc (b:Bool) (k:Bool→β):xXl b k=k b:=by cases b<;>rfl
noncomputable def zJb (o:Option Nat) (k:Option Nat→β):β:=Option.casesOn (motive:=fun _=>β) o (k none) (fun n=>bO n (fun n=>k (some n)))
theorem zJc (o:Option Nat) (k:Option Nat→β):zJb o k=k o:=by cases o<;>simp [zJb,pF]
noncomputable def nfL {α:Type} (l:List α):(List α→β)→β :=
  List.rec (motive:=fun _=>(List α→β)→β) (fun k=>k []) (fun a _ ih k=>ih (fun l=>k (a::l))) l
theorem rC {α:Type}:∀ (l:List α) (k:List α→β),nfL l k=k l
  | [],_k=>rfl
  | a::l,k=>rC l (fun l=>k (a::l))
noncomputable def yFi (l:List Nat):(List Nat→β)→β :=
  List.rec (motive:=fun _=>(List Nat→β)→β) (fun k=>k []) (fun a _ ih k=>bO a (fun a=>ih (fun l=>k (a::l)))) l
theorem zAe:∀ (l:List Nat) (k:List Nat→β),yFi l k=k l
  | [],k=>rfl
  | a::l,k=>by
    show bO a (fun a=>yFi l (fun l=>k (a::l)))=_
    rw [pF]
    exact zAe l (fun l=>k (a::l))
noncomputable def nfP (p:Pth):(Pth→β)→β :=
  Pth.rec (motive:=fun _=>(Pth→β)→β) (fun k=>k .e) (fun _ ih k=>ih (fun p=>k (.l p))) (fun _ ih k=>ih (fun p=>k (.r p))) p
theorem xA8:∀ (p:Pth) (k:Pth→β),nfP p k=k p
  | .e,_k=>rfl
  | .l p,k=>xA8 p (fun p=>k (.l p))
  | .r p,k=>xA8 p (fun p=>k (.r p))
noncomputable def xE6 (p:Pth):(Pth→β)→β :=
  Pth.rec (motive:=fun _=>(Pth→β)→β) (fun k=>k (.l .e)) (fun p _ k=>k (.r p)) (fun _ ih k=>ih (fun p=>k (.l p))) p
theorem gW:∀ (p:Pth) (k:Pth→β),xE6 p k=k p.succ
  | .e,_=>rfl
  | .l _,_=>rfl
  | .r p,k=>gW p (fun p=>k (.l p))
noncomputable def nfV (v:AV) (k:AV→β):β :=
  match v with
  | .bool b=>xXl b fun b=>k (.bool b)
  | .int kd n=>xQd n fun n=>k (.int kd n)
  | .str s=>yFi s fun s=>k (.str s)
  | .ptr id off=>bO off fun off=>k (.ptr id off)
  | .slc id off len sz cap=>bO off fun off=>bO len fun len=>zJb cap fun cap=>k (.slc id off len sz cap)
  | .rslc len cs=>bO len fun len=>nfL cs fun cs=>k (.rslc len cs)
  | .rmap ks vs=>nfL ks fun ks=>nfL vs fun vs=>k (.rmap ks vs)
  | .rptr cs=>nfL cs fun cs=>k (.rptr cs)
  | .agg cs=>nfL cs fun cs=>k (.agg cs)
  | .tup cs=>nfL cs fun cs=>k (.tup cs)
  | .fn f a b=>nfL a fun a=>nfL b fun b=>k (.fn f a b)
  | v=>k v
theorem xEh (v:AV) (k:AV→β):nfV v k=k v:=by
  cases v<;>simp only [nfV,xQc,xNg,zAe,pF,zJc,rC]
noncomputable def zZ8 (l:List AV):(List AV→β)→β :=
  List.rec (motive:=fun _=>(List AV→β)→β) (fun k=>k []) (fun a _ ih k=>nfV a (fun a=>ih (fun l=>k (a::l)))) l
theorem xS6:∀ (l:List AV) (k:List AV→β),zZ8 l k=k l
  | [],k=>rfl
  | a::l,k=>by
    show nfV a (fun a=>zZ8 l (fun l=>k (a::l)))=_
    rw [xEh]
    exact xS6 l (fun l=>k (a::l))
noncomputable def nfB (b:AB) (k:AB→β):β :=
  match b with
  | .cells cs sp=>zZ8 cs fun cs=>xXl sp fun sp=>k (.cells cs sp)
  | .amap es=>nfL es fun es=>k (.amap es)
  | .siter s pos=>bO pos fun pos=>k (.siter s pos)
  | .miter m n i=>bO i fun i=>k (.miter m n i)
  | b=>k b
theorem xS5 (b:AB) (k:AB→β):nfB b k=k b:=by
  cases b<;>simp only [nfB,xS6,xQc,rC,pF]
noncomputable def get {α:Type} (t:Tr α):Pth→Option α :=
  Tr.rec (motive:=fun _=>Pth→Option α) (fun _=>none) (fun _ v _ gl gr p=>Pth.rec (motive:=fun _=>Option α) v (fun q _=>gl q) (fun q _=>gr q) p) t
theorem mR {α:Type}:∀ (t:Tr α) (p:Pth),get t p=t.get p
  | .lf,p=>by cases p<;>rfl
  | .nd l v r,.e=>rfl
  | .nd l v r,.l p=>mR l p
  | .nd l v r,.r p=>mR r p
noncomputable def upd {α:Type} (x:Option α) (p:Pth):Tr α→(Tr α→β)→β :=
  Pth.rec (motive:=fun _=>Tr α→(Tr α→β)→β)
    (fun t k=>Tr.rec (motive:=fun _=>β) (k (.nd .lf x .lf)) (fun l _ r _ _=>k (.nd l x r)) t)
    (fun _ ih t k=>Tr.rec (motive:=fun _=>β) (ih .lf (fun l'=>k (.nd l' none .lf))) (fun l v r _ _=>ih l (fun l'=>k (.nd l' v r))) t)
    (fun _ ih t k=>Tr.rec (motive:=fun _=>β) (ih .lf (fun r'=>k (.nd .lf none r'))) (fun l v r _ _=>ih r (fun r'=>k (.nd l v r'))) t) p
theorem xJe {α:Type} (x:Option α):∀ (p:Pth) (t:Tr α) (k:Tr α→β),upd x p t k=k (Tr.upd x p t)
  | .e,t,k=>by cases t<;>rfl
  | .l p,.lf,k=>xJe x p .lf (fun l'=>k (.nd l' none .lf))
  | .l p,.nd l v r,k=>xJe x p l (fun l'=>k (.nd l' v r))
  | .r p,.lf,k=>xJe x p .lf (fun r'=>k (.nd .lf none r'))
  | .r p,.nd l v r,k=>xJe x p r (fun r'=>k (.nd l v r'))
theorem gN {α:Type} (x:α) (p:Pth) (t:Tr α) (k:Tr α→β):upd (some x) p t k=k (t.put p x):=xJe _ _ _ _
noncomputable def yE9 {α:Type} (t:Tr α) (z:β) (k:α→β):Pth→β :=
  Tr.rec (motive:=fun _=>Pth→β) (fun _=>z) (fun _ v _ gl gr p=>Pth.rec (motive:=fun _=>β) (Option.rec (motive:=fun _=>β) z k v) (fun q _=>gl q) (fun q _=>gr q) p) t
theorem xRu {α:Type}:∀ (t:Tr α) (z:β) (k:α→β) (p:Pth),yE9 t z k p=Option.casesOn (motive:=fun _=>β) (get t p) z k
  | .lf,z,k,p=>by cases p<;>rfl
  | .nd l v r,z,k,.e=>rfl
  | .nd l v r,z,k,.l p=>xRu l z k p
  | .nd l v r,z,k,.r p=>xRu r z k p
noncomputable def xJu (X:Ctx) (fr:Tr AV) (o:Opd) (z:β) (k:AV→β):β :=
  Opd.rec (motive:=fun _=>β) (fun t=>yE9 fr z k t) (fun v=>k v) (fun g=>Option.casesOn (motive:=fun _=>β) (glA X g) z (fun cs=>k (.rptr cs))) o
theorem xMl (X:Ctx) (fr:Tr AV) (o:Opd) (z:β) (k:AV→β):xJu X fr o z k=match xZ X fr o with | some v=>k v | none=>z:=by
  cases o with
  | tmp t =>
    show yE9 fr z k t=_
    rw [xRu,mR]
    simp only [xZ]
    cases fr.get t<;>rfl
  | const v=>rfl
  | glob g=>simp only [xJu,xZ]; cases glA X g<;>rfl
noncomputable def xZz (X:Ctx) (fr:Tr AV) (os:List Opd) (z:β):(List AV→β)→β :=
  List.rec (motive:=fun _=>(List AV→β)→β) (fun k=>k []) (fun o _ ih k=>xJu X fr o z (fun v=>ih (fun vs=>k (v::vs)))) os
theorem xMk (X:Ctx) (fr:Tr AV) (z:β):∀ (os:List Opd) (k:List AV→β),xZz X fr os z k=match xE X fr os with | some vs=>k vs | none=>z
  | [],k=>rfl
  | o :: os,k=>by
    show xJu X fr o z _=_
    rw [xMl]
    simp only [xE]
    cases xZ X fr o with
    | none=>rfl
    | some v =>
      simp only
      have:=xMk X fr z os (fun vs=>k (v::vs))
      cases h:xE X fr os with
      | none=>rw [h] at this; exact this
      | some vs=>rw [h] at this; exact this
noncomputable def xKj (d:Option Pth) (v:AV) (fr:Tr AV) (k:Tr AV→β):β :=
  Option.rec (motive:=fun _=>β) (k fr) (fun d=>upd (some v) d fr k) d
structure Rest where
  df:List ADef
  rc:Rc
  rd:Option Pth
  fnid:Pth
def mk (fr:Tr AV) (h:H) (r:Rest):St:=⟨fr,r.df,h,r.rc,r.rd,r.fnid⟩
def rest (s:St):Rest:=⟨s.df,s.rc,s.rd,s.fnid⟩
theorem xBb (d:Option Pth) (v:AV) (fr:Tr AV) (h:H) (r:Rest) (k:St→β):xKj d v fr (fun fr=>k (mk fr h r))=k ((mk fr h r).put d v):=by
  cases d with
  | none=>rfl
  | some d=>exact gN v d fr _
noncomputable def setH (h:H) (id:Pth) (b:AB) (k:H→β):β:=nfB b fun b=>upd (some b) id h.t fun t=>k ⟨h.next,t,h.ro⟩
theorem xL7 (h:H) (id:Pth) (b:AB) (k:H→β):setH h id b k=k (h.setB id b):=by
  simp only [setH,xS5,gN]; rfl
noncomputable def xNe (h:H) (b:AB) (k:H→β):β:=nfB b fun b=>upd (some b) h.next h.t fun t=>xE6 h.next fun nx=>k ⟨nx,t,h.ro⟩
theorem xG7 (h:H) (b:AB) (k:H→β):xNe h b k=k (h.newB b):=by
  simp only [xNe,xS5,gN,gW]; rfl
noncomputable def cellsAt (h:H) (id:Pth):Option (List AV) :=
  match get h.t id with
  | some (.cells cs _)=>some cs
  | some _=>none
  | none=>get h.ro id
theorem xEc (h:H) (id:Pth):cellsAt h id=h.cellsAt id:=by
  simp only [cellsAt,H.cellsAt,mR]
  cases h.t.get id with
  | none=>rfl
  | some b=>cases b<;>rfl
noncomputable def nth (cs:List AV):Nat→(AV→β)→β→β :=
  List.rec (motive:=fun _=>Nat→(AV→β)→β→β) (fun _ _ z=>z) (fun c _ ih n k z=>Nat.rec (motive:=fun _=>β) (k c) (fun m _=>ih m k z) n) cs
theorem xXm:∀ (cs:List AV) (n:Nat) (k:AV→β) (z:β),nth cs n k z=match cs[n]? with | some c=>k c | none=>z
  | [],n,k,z=>by simp; rfl
  | c::cs,0,k,z=>by simp; rfl
  | c::cs,n+1,k,z=>by
    show nth cs n k z=_
    rw [xXm cs n k z]
    simp
noncomputable def xHr (cs:List AV):Nat→(List AV→β)→β→β :=
  List.rec (motive:=fun _=>Nat→(List AV→β)→β→β) (fun n k z=>Nat.rec (motive:=fun _=>β) (k []) (fun _ _=>z) n)
    (fun c _ ih n k z=>Nat.rec (motive:=fun _=>β) (k []) (fun m _=>ih m (fun l=>k (c::l)) z) n) cs
theorem xHs:∀ (cs:List AV) (n:Nat) (k:List AV→β) (z:β),xHr cs n k z=if n≤cs.length then k (cs.take n) else z
  | [],0,k,z=>by simp; rfl
  | [],n+1,k,z=>by simp; rfl
  | c::cs,0,k,z=>by simp; rfl
  | c::cs,n+1,k,z=>by
    show xHr cs n _ z=_
    rw [xHs cs n]
    simp
noncomputable def xTu (cs:List AV):Nat→List AV :=
  List.rec (motive:=fun _=>Nat→List AV) (fun _=>[]) (fun c cs ih n=>Nat.rec (motive:=fun _=>List AV) (c::cs) (fun m _=>ih m) n) cs
theorem xLy:∀ (cs:List AV) (n:Nat),xTu cs n=cs.drop n
  | [],n=>by simp; rfl
  | c::cs,0=>rfl
  | c::cs,n+1=>xLy cs n
theorem xOd (cs:List AV) (off n:Nat):takeD cs off n=if n≤(cs.drop off).length then some ((cs.drop off).take n) else none:=by
  unfold takeD
  simp only [List.length_take]
  by_cases h:n≤(cs.drop off).length
  · rw [if_pos h,Nat.min_eq_left h]
    simp
  · rw [if_neg h]
    have:Nat.beq (min n (cs.drop off).length) n=false:=by
      cases hb:Nat.beq (min n (cs.drop off).length) n with
      | false=>rfl
      | true=>have:=Nat.eq_of_beq_eq_true hb; omega
    rw [this]; rfl
noncomputable def xQn (cs:List AV) (off:Nat) (n:Option Nat) (k:AV→β) (z:β):β :=
  Option.rec (motive:=fun _=>β) (nth cs off k z) (fun n=>xHr (xTu cs off) n (fun l=>k (.agg l)) z) n
theorem xNp (cs:List AV) (off:Nat) (n:Option Nat) (k:AV→β) (z:β):xQn cs off n k z=match wR cs off n with | some v=>k v | none=>z:=by
  cases n with
  | none =>
    simp only [xQn,xXm,wR,xOd]
    by_cases h:off<cs.length
    · have hd:(cs.drop off).length=cs.length - off:=by simp
      have e1:=List.drop_eq_getElem_cons (l:=cs) (i:=off) h
      rw [if_pos (by omega),List.getElem?_eq_getElem h,e1]
      rfl
    · have hd:(cs.drop off).length=0:=by simp; omega
      rw [if_neg (by omega),List.getElem?_eq_none (by omega)]
  | some n =>
    simp only [xQn,xHs,xLy,wR,xOd]
    by_cases h:n≤(cs.drop off).length
    · rw [if_pos h,if_pos h]; rfl
    · rw [if_neg h,if_neg h]; rfl
noncomputable def zZq (vs:List AV):List AV→(List AV→β)→β→β :=
  List.rec (motive:=fun _=>List AV→(List AV→β)→β→β) (fun cs k _=>k cs)
    (fun v _ ih cs k z=>List.rec (motive:=fun _=>β) z (fun _ cs _=>ih cs (fun l=>k (v::l)) z) cs) vs
theorem zAw:∀ (vs cs:List AV) (k:List AV→β) (z:β),zZq vs cs k z=match setAt cs 0 vs with | some l=>k l | none=>z
  | [],cs,k,z=>by cases cs<;>rfl
  | v::vs,[],k,z=>rfl
  | v::vs,c::cs,k,z=>by
    show zZq vs cs (fun l=>k (v::l)) z=_
    rw [zAw vs cs]
    simp only [setAt]
    cases setAt cs 0 vs<;>rfl
noncomputable def xSz (cs:List AV):Nat→List AV→(List AV→β)→β→β :=
  List.rec (motive:=fun _=>Nat→List AV→(List AV→β)→β→β) (fun _ vs k z=>zZq vs [] k z)
    (fun c cs ih n vs k z=>Nat.rec (motive:=fun _=>β) (zZq vs (c::cs) k z) (fun m _=>ih m vs (fun l=>k (c::l)) z) n) cs
theorem xD4:∀ (cs:List AV) (n:Nat) (vs:List AV) (k:List AV→β) (z:β),xSz cs n vs k z=match setAt cs n vs with | some l=>k l | none=>z
  | [],n,[],k,z=>rfl
  | [],n,v::vs,k,z=>rfl
  | c::cs,0,vs,k,z=>zAw vs (c::cs) k z
  | c::cs,n+1,[],k,z=>by
    show xSz cs n [] (fun l=>k (c::l)) z=_
    rw [xD4 cs n]
    have:∀ (l:List AV) (n:Nat),setAt l n []=some l:=fun l n=>by cases l<;>rfl
    simp [this]
  | c::cs,n+1,v::vs,k,z=>by
    show xSz cs n (v::vs) (fun l=>k (c::l)) z=_
    rw [xD4 cs n]
    simp only [setAt]
    cases setAt cs n (v::vs)<;>rfl
end Go.Abs.F
end
section
namespace Go.Abs.F
variable {β:Type}
noncomputable def xT4 (h:H) (n:Nat) (a v:AV) (k:H→β) (z:β):β :=
  match a with
  | .ptr id off=>match get h.t id with
    | some (.cells cs sp)=>bif Nat.beq v.cells.length n&&mF v.cells then xSz cs off v.cells (fun cs=>upd (some (.cells cs sp)) id h.t fun t=>k ⟨h.next,t,h.ro⟩) z else z
    | _=>z
  | _=>z
theorem zFk (h:H) (n:Nat) (a v:AV) (k:H→β) (z:β):xT4 h n a v k z=match wW h n a v with | some h=>k h | none=>z:=by
  cases a<;>try rfl
  rename_i id off
  simp only [xT4,wW,mR]
  cases h.t.get id with
  | none=>rfl
  | some b =>
    cases b<;>try rfl
    rename_i cs sp
    simp only
    cases (Nat.beq v.cells.length n&&mF v.cells) with
    | false=>rfl
    | true =>
      simp only [cond_true,xD4,gN]
      cases setAt cs off v.cells<;>rfl
noncomputable def xN4 (h:H) (n:Option Nat) (a:AV) (k:AV→β) (z:β):β :=
  match a with
  | .ptr id off=>match cellsAt h id with
    | some cs=>xQn cs off n k z
    | none=>z
  | .rptr cs=>xQn cs 0 n k z
  | _=>z
theorem xN5 (h:H) (n:Option Nat) (a:AV) (k:AV→β) (z:β):xN4 h n a k z=match vJ h n a with | some v=>k v | none=>z:=by
  cases a<;>try rfl
  · rename_i id off
    simp only [xN4,vJ,xEc]
    cases h.cellsAt id with
    | none=>rfl
    | some cs=>exact xNp _ _ _ _ _
  · exact xNp _ _ _ _ _
noncomputable def xRq (h:H) (sz n:Nat) (x:AV) (k:List AV→β) (z:β):β :=
  match x with
  | .slc id off len sz' _=>bif Nat.beq sz sz'&&Nat.ble n len then (match cellsAt h id with | some cs=>xHr (xTu cs off) (n*sz) k z | none=>z) else z
  | x=>match bN h sz n x with | some l=>zZ8 l k | none=>z
theorem xJv (cs:List AV) (off n:Nat) (k:List AV→β) (z:β):xHr (xTu cs off) n k z=match takeD cs off n with | some l=>k l | none=>z:=by
  rw [xHs,xLy,xOd]
  by_cases h:n≤(cs.drop off).length
  · rw [if_pos h,if_pos h]
  · rw [if_neg h,if_neg h]
theorem xCy (h:H) (sz n:Nat) (x:AV) (k:List AV→β) (z:β):xRq h sz n x k z=match bN h sz n x with | some l=>k l | none=>z:=by
  cases x
  case slc id off len sz' cap =>
    simp only [xRq,bN,xEc]
    cases (Nat.beq sz sz'&&Nat.ble n len) with
    | false=>rfl
    | true =>
      simp only [cond_true]
      cases h.cellsAt id with
      | none=>rfl
      | some cs=>exact xJv _ _ _ _ _
  all_goals
    simp only [xRq,xS6]
noncomputable def rP (h:H) (sz bytes:Nat) (s x:AV) (k:AV→H→β) (z:β):β :=
  match xD9 x with
  | none=>z
  | some n => bO n fun n=>xRq h sz n x (fun new =>
    match s with
    | .nils =>
      bif Nat.beq n 0 then k .nils h else
      bif Nat.ble xQ (n*bytes)||Nat.ble xQ n then z else
      xNe h (.cells new true) fun h'=>k (.slc h.next 0 n sz none) h'
    | .slc id off len sz' cap =>
      bif Nat.beq sz sz' then
      bif Nat.beq n 0 then k (.slc id off len sz' cap) h else
      bif Nat.ble xQ ((len+n)*bytes)||Nat.ble xQ (len+n) then z else
      match cap with
      | some c =>
        bif Nat.ble (len+n) c then
          match get h.t id with
          | some (.cells cs sp)=>bif mF new then xSz cs (off+len*sz) new (fun cs=>upd (some (.cells cs sp)) id h.t fun t=>bO (len+n) fun m=>k (.slc id off m sz (some c)) ⟨h.next,t,h.ro⟩) z else z
          | _=>z
        else match cellsAt h id with
          | some cs=>xHr (xTu cs off) (len*sz) (fun old=>xNe h (.cells (old++new) true) fun h'=>bO (len+n) fun m=>k (.slc h.next 0 m sz none) h') z
          | none=>z
      | none => match get h.t id with
        | some (.cells cs sp) =>
          bif sp&&mF new&&Nat.beq off 0&&Nat.beq cs.length (len*sz)&&(get h.ro id).isNone then
            nfB (.cells (cs++new) true) fun b=>upd none id h.t fun t=>upd (some b) h.next t fun t=>xE6 h.next fun nx=>bO (len+n) fun m=>k (.slc h.next 0 m sz none) ⟨nx,t,h.ro⟩
          else z
        | _=>z
      else z
    | s=>match jD h sz bytes s x with | some (v,h)=>k v h | none=>z) z
theorem xWn (h : H) (sz bytes:Nat) (s x:AV) (k:AV→H→β) (z:β):rP h sz bytes s x k z=match jD h sz bytes s x with | some (v,h)=>k v h | none=>z:=by
  have hd:∀ (id:Pth) (t:Tr AB),Tr.upd none id t=t.del id:=fun _ _=>rfl
  cases hl:xD9 x with
  | none=>simp only [rP,jD,hl]
  | some n =>
    cases hf:bN h sz n x with
    | none=>simp only [rP,jD,hl,pF,xCy,hf]
    | some new =>
      cases s
      case nils =>
        simp only [rP,jD,hl,pF,xCy,hf,xG7]
        cases Nat.beq n 0<;>simp only [cond_true,cond_false]
        cases (Nat.ble xQ (n*bytes)||Nat.ble xQ n)<;>rfl
      case slc id off len sz' cap =>
        simp only [rP,jD,hl,pF,xCy,hf,xG7,mR,xEc,xD4,xJe,hd,xS5,gW,xJv]
        cases Nat.beq sz sz' with
        | false=>rfl
        | true =>
          simp only [cond_true]
          cases Nat.beq n 0 with
          | true=>rfl
          | false =>
            simp only [cond_false]
            cases (Nat.ble xQ ((len+n)*bytes)||Nat.ble xQ (len+n)) with
            | true=>rfl
            | false =>
              simp only [cond_false]
              cases cap with
              | some c =>
                simp only
                cases Nat.ble (len+n) c with
                | true =>
                  simp only [cond_true]
                  cases h.t.get id with
                  | none=>rfl
                  | some b =>
                    cases b<;>try rfl
                    rename_i cs sp
                    simp only
                    cases mF new with
                    | false=>rfl
                    | true =>
                      simp only [cond_true]
                      cases setAt cs (off+len*sz) new<;>rfl
                | false =>
                  simp only [cond_false]
                  cases h.cellsAt id with
                  | none=>rfl
                  | some cs =>
                    simp only
                    cases takeD cs off (len*sz)<;>rfl
              | none =>
                simp only
                cases h.t.get id with
                | none=>rfl
                | some b =>
                  cases b<;>try rfl
                  rename_i cs sp
                  simp only
                  cases (sp&&mF new&&Nat.beq off 0&&Nat.beq cs.length (len*sz)&&(h.ro.get id).isNone)<;>rfl
      all_goals simp only [rP,hl,pF,xCy,hf]
noncomputable def zI (h:H) (op:AOp) (vs:List AV) (k:AV→H→β) (q:ORes→β):β :=
  match op,vs with
  | .mov,[x]=>k x h
  | .load n,[a]=>xN4 h n a (fun v=>k v h) (q .bad)
  | .store n,[a,v]=>xT4 h n a v (fun h=>k (.tup []) h) (q .bad)
  | .append sz bytes false,[s,x]=>rP h sz bytes s x k (q .bad)
  | .mapUpd kn,[.mapv id,key,v]=>match rY h kn (.mapv id) key v with
    | some _=>match get h.t id with
      | some (.amap es)=>setH h id (.amap (xOm kn key v es)) fun h=>k (.tup []) h
      | _=>q .bad
    | none=>q .bad
  | op,vs=>bif xO op then
      match jX op vs h.next with
      | some (v,b)=>nfV v fun v=>xNe h b fun h=>k v h
      | none=>q .bad
    else match zS h op vs with
      | .val v h=>nfV v fun v=>k v h
      | r=>q r
def ORes.to (r:ORes) (k:AV→H→β) (q:ORes→β):β :=
  match r with
  | .val v h=>k v h
  | r=>q r
theorem xA1 {h:H} {op:AOp} {vs:List AV} (hm:xO op=true):zS h op vs=match jX op vs h.next with | some (v,b)=>.val v (h.newB b) | none=>.bad:=by
  cases op<;>simp only [xO,Bool.false_eq_true] at hm<;>rfl
theorem xAt (h:H) (op:AOp) (vs:List AV) (k:AV→H→β) (q:ORes→β):zI h op vs k q=ORes.to (zS h op vs) k q:=by
  unfold zI
  split
  · rfl
  · rw [xN5]
    simp only [zS,xO,cond_false,xM]
    cases vJ h _ _<;>rfl
  · rw [zFk]
    simp only [zS]
    cases wW h _ _ _<;>rfl
  · rw [xWn]
    simp only [zS]
    cases jD h _ _ _ _<;>rfl
  · rename_i kn id key v
    simp only [zS,mR,xL7]
    cases hm:rY h kn (.mapv id) key v with
    | none=>rfl
    | some h' =>
      simp only
      unfold rY at hm
      cases hko:xBg kn key with
      | false=>rw [hko] at hm; cases hm
      | true =>
        rw [hko] at hm
        simp only [cond_true] at hm
        cases hg:h.t.get id with
        | none=>rw [hg] at hm; cases hm
        | some b =>
          rw [hg] at hm
          cases b
          case amap es =>
           simp only at hm ⊢
           cases hf:bM kn key es with
           | none=>rw [hf] at hm; cases hm
           | some r=>rw [hf] at hm; cases hm; rfl
          all_goals cases hm
  · cases hm:xO op with
    | true =>
      simp only [cond_true,xEh,xG7]
      rw [xA1 hm]
      cases jX op vs h.next with
      | none=>rfl
      | some p=>rfl
    | false =>
      simp only [cond_false,xEh]
      cases zS h op vs<;>rfl
end Go.Abs.F
end
section
namespace Go.Abs.F
variable {β:Type}
noncomputable def asInt (v:AV) (z:β) (k:IntKind→Int→β):β:=match v with | .int kd n=>k kd n | _=>z
noncomputable def yIh (v:AV) (z:β) (k:Pth→Nat→β):β:=match v with | .ptr id off=>k id off | _=>z
noncomputable def yPs (v:AV) (z:β) (k:List AV→β):β:=match v with | .rptr cs=>k cs | _=>z
noncomputable def zGz (v:AV) (z:β) (k:List Nat→β):β:=match v with | .str s=>k s | _=>z
noncomputable def zH0 (v:AV) (z:β) (k:Nat→β):β:=match v with | .sym i=>k i | _=>z
noncomputable def xZd (cs:List AV):Nat→(List AV→β)→β→β :=
  List.rec (motive:=fun _=>Nat→(List AV→β)→β→β) (fun n k z=>Nat.rec (motive:=fun _=>β) (k []) (fun _ _=>z) n)
    (fun c cs ih n k z=>Nat.rec (motive:=fun _=>β) (k (c::cs)) (fun m _=>ih m k z) n) cs
theorem xTv:∀ (cs:List AV) (n:Nat) (k:List AV→β) (z:β),xZd cs n k z=bif Nat.ble n cs.length then k (cs.drop n) else z
  | [],0,k,z=>rfl
  | [],n+1,k,z=>rfl
  | c::cs,0,k,z=>rfl
  | c::cs,n+1,k,z=>by
    show xZd cs n k z=_
    rw [xTv cs n k z]
    rfl
noncomputable def yBn (cs:List AV):Nat→(List AV→β)→β :=
  List.rec (motive:=fun _=>Nat→(List AV→β)→β) (fun _ k=>k [])
    (fun c cs ih n k=>Nat.rec (motive:=fun _=>β) (k (c::cs)) (fun m _=>ih m k) n) cs
theorem xTt:∀ (cs:List AV) (n:Nat) (k:List AV→β),yBn cs n k=k (cs.drop n)
  | [],n,k=>by simp; rfl
  | c::cs,0,k=>rfl
  | c::cs,n+1,k=>xTt cs n k
section
variable (h:H) (vs:List AV) (k:AV→H→β) (q:ORes→β)
noncomputable def yFx:β:=match vs with | [x]=>k x h | vs=>zI h .mov vs k q
noncomputable def zRx:β:=match vs with | [.bool c,a,b]=>bif c then k a h else k b h | vs=>zI h .pick vs k q
noncomputable def xXw (z:List AV):β:=match vs with
  | []=>upd (some (.cells z false)) h.next h.t fun t=>xE6 h.next fun nx=>k (.ptr h.next 0) ⟨nx,t,h.ro⟩
  | vs=>zI h (.alloc z) vs k q
noncomputable def yFv:β:=match vs with
  | [x]=>nfL x.cells fun cs=>upd (some (.cells cs false)) h.next h.t fun t=>xE6 h.next fun nx=>k (.ptr h.next 0) ⟨nx,t,h.ro⟩
  | vs=>zI h .box vs k q
noncomputable def zI5 (ps:List (Nat×Nat)):List AV→List AV→(List AV→β)→β→β :=
  List.rec (motive:=fun _=>List AV→List AV→(List AV→β)→β→β) (fun cs vs k z=>match vs with | []=>k cs | _=>z)
    (fun p _ ih cs vs k z=>match vs with
      | v::vs=>nfL v.cells fun vc=>bif Nat.beq vc.length p.2&&Nat.ble (p.1+p.2) cs.length then xSz cs p.1 vc (fun cs=>ih cs vs k z) z else z
      | []=>z) ps
theorem xUn:∀ (ps:List (Nat×Nat)) (cs vs:List AV) (k:List AV→β) (z:β),zI5 ps cs vs k z=match jO cs ps vs with | some l=>k l | none=>z
  | [],cs,[],k,z=>rfl
  | [],cs,v::vs,k,z=>rfl
  | (off,sz)::ps,cs,[],k,z=>rfl
  | (off,sz)::ps,cs,v::vs,k,z=>by
    show (nfL v.cells fun vc=>bif Nat.beq vc.length sz&&Nat.ble (off+sz) cs.length then xSz cs off vc (fun cs=>zI5 ps cs vs k z) z else z)=_
    simp only [rC,jO,xD4]
    cases (Nat.beq v.cells.length sz&&Nat.ble (off+sz) cs.length) with
    | false=>rfl
    | true =>
      simp only [cond_true]
      cases setAt cs off v.cells with
      | none=>rfl
      | some cs'=>exact xUn ps cs' vs k z
noncomputable def xWy (sz:Nat) (ps:List Nat):List AV→List AV→(List AV→β)→β→β :=
  List.rec (motive:=fun _=>List AV→List AV→(List AV→β)→β→β) (fun cs vs k z=>match vs with | []=>k cs | _=>z)
    (fun i _ ih cs vs k z=>match vs with
      | v::vs=>nfL v.cells fun vc=>bif Nat.beq vc.length sz&&Nat.ble (i*sz+sz) cs.length then xSz cs (i*sz) vc (fun cs=>ih cs vs k z) z else z
      | []=>z) ps
theorem xQ4 (sz:Nat):∀ (ps:List Nat) (cs vs:List AV) (k:List AV→β) (z:β),xWy sz ps cs vs k z=match mM sz cs ps vs with | some l=>k l | none=>z
  | [],cs,[],k,z=>rfl
  | [],cs,v::vs,k,z=>rfl
  | i::ps,cs,[],k,z=>rfl
  | i :: ps,cs,v::vs,k,z=>by
    show (nfL v.cells fun vc=>bif Nat.beq vc.length sz&&Nat.ble (i*sz+sz) cs.length then xSz cs (i*sz) vc (fun cs=>xWy sz ps cs vs k z) z else z)=_
    simp only [rC,mM,xD4]
    cases (Nat.beq v.cells.length sz&&Nat.ble (i*sz+sz) cs.length) with
    | false=>rfl
    | true =>
      simp only [cond_true]
      cases setAt cs (i*sz) v.cells with
      | none=>rfl
      | some cs'=>exact xQ4 sz ps cs' vs k z
noncomputable def xXx (z:List AV) (parts:List (Nat×Nat)):β:=zI5 parts z vs (fun cs=>k (.agg cs) h) (q .bad)
noncomputable def xNs (n sz:Nat) (z:List AV) (parts:List Nat):β :=
  xWy sz parts z vs (fun cs=>upd (some (.cells cs false)) h.next h.t fun t=>xE6 h.next fun nx=>k (.slc h.next 0 n sz (some n)) ⟨nx,t,h.ro⟩) (q .bad)
noncomputable def zRv (n:Option Nat):β:=match vs with | [a]=>xN4 h n a (fun v=>k v h) (q .bad) | vs=>zI h (.load n) vs k q
noncomputable def xXz (n:Nat):β:=match vs with | [a,v]=>xT4 h n a v (fun h=>k (.tup []) h) (q .bad) | vs=>zI h (.store n) vs k q
noncomputable def xF2 (off:Nat):β:=match vs with
  | [a]=>yIh a (yPs a (zI h (.fieldAddr off) vs k q) fun cs=>xZd cs off (fun cs=>k (.rptr cs) h) (q .bad)) fun id o=>bO (o+off) fun o=>k (.ptr id o) h
  | vs=>zI h (.fieldAddr off) vs k q
noncomputable def xXy (off:Nat) (n:Option Nat):β:=match vs with
  | [.agg cs]=>xQn cs off n (fun v=>k v h) (q .bad)
  | vs=>zI h (.field off n) vs k q
noncomputable def xF3 (ix:IxK):β:=match vs with
  | [x, i]=>match ix with
    | .slc sz=>match x with
      | .slc id off len sz' _=>asInt i (zI h (.indexAddr ix) vs k q) fun _ n =>
        bif Nat.beq sz sz'&&leI 0 n&&ltI n (.ofNat len) then bO (off+n.toNat*sz) fun o=>k (.ptr id o) h else q .bad
      | .rslc len cs=>asInt i (zI h (.indexAddr ix) vs k q) fun _ n =>
        bif leI 0 n&&ltI n (.ofNat len) then (match cs with | []=>q .bad | c::cs=>yBn (c::cs) (n.toNat*sz) fun cs=>k (.rptr cs) h) else q .bad
      | _=>zI h (.indexAddr ix) vs k q
    | .arr len sz=>match x with
      | .ptr id off=>asInt i (zI h (.indexAddr ix) vs k q) fun _ n=>bif leI 0 n&&ltI n (.ofNat len) then bO (off+n.toNat*sz) fun o=>k (.ptr id o) h else q .bad
      | _=>zI h (.indexAddr ix) vs k q
  | vs=>zI h (.indexAddr ix) vs k q
noncomputable def zRu (c:ConvK):β:=match vs with
  | [x]=>match c with
    | .int kd=>asInt x (zI h (.conv c) vs k q) fun _ n=>xQd (zU kd n) fun n=>k (.int kd n) h
    | c=>zI h (.conv c) [x] k q
  | vs=>zI h (.conv c) vs k q
noncomputable def qUn (op:UnOp):β:=match vs with
  | [.bool b]=>match op with
    | .not=>bif b then k (.bool false) h else k (.bool true) h
    | op=>zI h (.un op) vs k q
  | vs=>zI h (.un op) vs k q
noncomputable def xF1 (b:Bool):β:=bif b then k (.bool true) h else k (.bool false) h
noncomputable def xSh (kd kd':IntKind) (n:Int):β:=bif eqK kd kd' then xQd (zU kd n) fun n=>k (.int kd n) h else q .bad
noncomputable def yNy (op:BinOp) (e:EqK) (a b:List Nat):β:=match op with
  | .eql=>match e with | .one=>xF1 h k (eqS a b) | _=>zI h (.bin op e) vs k q
  | .neq=>match e with | .one=>xF1 h k (!(eqS a b)) | _=>zI h (.bin op e) vs k q
  | _=>zI h (.bin op e) vs k q
noncomputable def yNz (op:BinOp) (e:EqK) (a b:Nat):β:=match op with
  | .lss=>bif vD a b then xF1 h k (ltI (yD a) (yD b)) else bif Nat.beq (pR a b) 0 then q .bad else xF1 h k (Nat.beq (pR a b) 1)
  | .gtr=>bif vD a b then xF1 h k (ltI (yD b) (yD a)) else bif Nat.beq (pR b a) 0 then q .bad else xF1 h k (Nat.beq (pR b a) 1)
  | .sub=>bif vD a b then xQd (yD a - yD b) fun n=>k (.int .i64 n) h else q .bad
  | _=>zI h (.bin op e) vs k q
noncomputable def yFu (op:BinOp) (e:EqK):β:=match vs with
  | [x,y]=>asInt x (zGz x (zH0 x (zI h (.bin op e) vs k q) fun a=>zH0 y (zI h (.bin op e) vs k q) fun b=>yNz h vs k q op e a b) fun a=>zGz y (zI h (.bin op e) vs k q) fun b=>yNy h vs k q op e a b) fun kd a=>asInt y (zI h (.bin op e) vs k q) fun kd' b=>match op with
    | .add=>xSh h k q kd kd' (a+b)
    | .sub=>xSh h k q kd kd' (a - b)
    | .mul=>xSh h k q kd kd' (a*b)
    | .lss=>bif eqK kd kd' then xF1 h k (ltI a b) else q .bad
    | .leq=>bif eqK kd kd' then xF1 h k (leI a b) else q .bad
    | .gtr=>bif eqK kd kd' then xF1 h k (ltI b a) else q .bad
    | .geq=>bif eqK kd kd' then xF1 h k (leI b a) else q .bad
    | .eql=>match e with | .one=>bif eqK kd kd' then xF1 h k (eqI a b) else q .bad | e=>zI h (.bin .eql e) vs k q
    | .neq=>match e with | .one=>bif eqK kd kd' then xF1 h k (!(eqI a b)) else q .bad | e=>zI h (.bin .neq e) vs k q
    | op=>zI h (.bin op e) vs k q
  | vs=>zI h (.bin op e) vs k q
noncomputable def xNt (i:Nat):β:=match vs with
  | [.tup ts]=>nth ts i (fun v=>k v h) (q .bad)
  | vs=>zI h (.extract i) vs k q
noncomputable def zRw (f:Pth) (n:Nat):β:=match n with
  | 0=>k (.fn f [] vs) h
  | n=>zI h (.mkFn f n) vs k q
noncomputable def yFw (l:LenK):β:=match vs with
  | [v]=>match l,v with
    | .slc,.slc _ _ n _ _=>k (.int .i64 (.ofNat n)) h
    | .slc,.rslc n _=>k (.int .i64 (.ofNat n)) h
    | l,v=>zI h (.len l) [v] k q
  | vs=>zI h (.len l) vs k q
noncomputable def xSg (sz bytes:Nat) (zs:Bool):β:=match vs with
  | [s,x]=>bif zs then zI h (.append sz bytes zs) vs k q else rP h sz bytes s x k (q .bad)
  | vs=>zI h (.append sz bytes zs) vs k q
noncomputable def yD3 (kn:KeyK) (zero:AV) (ok:Bool) (key:AV) (es:List (AV×AV)):β:=match bM kn key es with
  | some r=>match r with
    | some v=>bif ok then k (.tup [v,.bool true]) h else k v h
    | none=>bif ok then k (.tup [zero,.bool false]) h else k zero h
  | none=>q .bad
noncomputable def xSi (kn:KeyK) (zero:AV) (ok:Bool):β:=match vs with
  | [m,key]=>match m with
    | .mapv id=>match get h.t id with
      | some (.amap es)=>bif xBg kn key then yD3 h k q kn zero ok key es else q .bad
      | _=>zI h (.lookup kn zero ok) vs k q
    | _=>zI h (.lookup kn zero ok) vs k q
  | vs=>zI h (.lookup kn zero ok) vs k q
noncomputable def xSj (kn:KeyK):β:=match vs with
  | [m,key,v]=>match m with
    | .mapv id=>match rY h kn (.mapv id) key v with
      | some _=>match get h.t id with
        | some (.amap es)=>setH h id (.amap (xOm kn key v es)) fun h=>k (.tup []) h
        | _=>q .bad
      | none=>q .bad
    | _=>zI h (.mapUpd kn) vs k q
  | vs=>zI h (.mapUpd kn) vs k q
noncomputable def zRt:β:=match vs with
  | f::as1=>q (.call f as1)
  | []=>zI h .call [] k q
noncomputable def xNu (t:TypeId):β:=match vs with
  | [x]=>k (.iface t x) h
  | vs=>zI h (.mkIface t) vs k q
end
noncomputable def yDd (h:H) (op:AOp) (vs:List AV) (k:AV→H→β) (q:ORes→β):β :=
  AOp.rec (motive:=fun _=>β) (t:=op)
    (mov:=yFx h vs k q) (pick:=zRx h vs k q) (alloc:=fun z=>xXw h vs k q z) (box:=yFv h vs k q) (build:=fun z ps=>xXx h vs k q z ps) (buildSl:=fun n sz z ps=>xNs h vs k q n sz z ps)
    (load:=fun n=>zRv h vs k q n) (store:=fun n=>xXz h vs k q n) (nilCheck:=zI h .nilCheck vs k q) (bin:=fun o e=>yFu h vs k q o e) (un:=fun o=>qUn h vs k q o) (conv:=fun c=>zRu h vs k q c)
    (toBytes:=zI h .toBytes vs k q) (mkIface:=fun t=>xNu h vs k q t) (mkFn:=fun f n=>zRw h vs k q f n) (mkMap:=zI h .mkMap vs k q) (mkSlice:=fun z b=>zI h (.mkSlice z b) vs k q)
    (slice:=fun s a b c=>zI h (.slice s a b c) vs k q) (fieldAddr:=fun o=>xF2 h vs k q o) (field:=fun o n=>xXy h vs k q o n) (indexAddr:=fun i=>xF3 h vs k q i) (indexArr:=fun a b c=>zI h (.indexArr a b c) vs k q)
    (indexStr:=zI h .indexStr vs k q) (lookup:=fun a b c=>xSi h vs k q a b c) (mapUpd:=fun a=>xSj h vs k q a) (rangeStr:=zI h .rangeStr vs k q) (rangeMap:=zI h .rangeMap vs k q)
    (next:=fun b=>zI h (.next b) vs k q) (entry:=zI h .entry vs k q) (assertTo:=fun a b c=>zI h (.assertTo a b c) vs k q) (extract:=fun i=>xNt h vs k q i) (append:=fun a b c=>xSg h vs k q a b c)
    (copy:=fun n=>zI h (.copy n) vs k q) (len:=fun l=>yFw h vs k q l) (cap:=fun c=>zI h (.cap c) vs k q) (min:=zI h .min vs k q) (max:=zI h .max vs k q) (recover:=zI h .recover vs k q) (panic:=zI h .panic vs k q)
    (call:=zRt h vs k q) (invoke:=fun t=>zI h (.invoke t) vs k q) (defer:=zI h .defer vs k q)
section
variable (h:H) (vs:List AV) (k:AV→H→β) (q:ORes→β)
theorem qR {op:AOp} (_hm:xO op=false) (hr:zS h op vs=match xM h op vs with | some v=>.val v h | none=>.bad):zI h op vs k q=match xM h op vs with | some v=>k v h | none=>q .bad:=by
  rw [xAt,hr]
  cases xM h op vs<;>rfl
theorem zZs (op:BinOp) (e:EqK):yFu h vs k q op e=zI h (.bin op e) vs k q:=by
  unfold yFu
  split
  · rename_i x y
    cases x<;>simp only [asInt,zGz,zH0]
    case str a =>
      cases y<;>simp only
      rename_i b
      have hst:=qR h [.str a,.str b] k q (op:=.bin op e) rfl rfl
      have cmp:∀ b:Bool,xF1 h k b=k (.bool b) h:=fun b=>by cases b<;>rfl
      unfold yNy
      cases op<;>simp only
      case eql=>cases e<;>simp only; (rw [hst]; simp only [xM,xG,zG,cmp]; rfl)
      case neq=>cases e<;>simp only; (rw [hst]; simp only [xM,xG,zG,cmp]; rfl)
    case sym a =>
      cases y<;>simp only
      rename_i b
      have hst:=qR h [.sym a,.sym b] k q (op:=.bin op e) rfl rfl
      have cmp:∀ b:Bool,xF1 h k b=k (.bool b) h:=fun b=>by cases b<;>rfl
      unfold yNz
      cases op<;>simp only
      case lss=>rw [hst]; simp only [xM,xG,xVx,cmp]; cases vD a b<;>cases Nat.beq (pR a b) 0<;>rfl
      case gtr=>rw [hst]; simp only [xM,xG,xVx,cmp]; cases vD a b<;>cases Nat.beq (pR b a) 0<;>rfl
      case sub=>rw [hst]; simp only [xM,xG,xNg]; cases vD a b<;>rfl
    rename_i kd a
    cases y<;>simp only
    rename_i kd' b
    have hst:=qR h [.int kd a,.int kd' b] k q (op:=.bin op e) rfl rfl
    have cmp:∀ b:Bool,xF1 h k b=k (.bool b) h:=fun b=>by cases b<;>rfl
    cases op<;>simp only
    case eql=>cases e<;>simp only<;>(rw [hst]; simp only [xM,xG,zG,cmp]; cases eqK kd kd'<;>rfl)
    case neq=>cases e<;>simp only<;>(rw [hst]; simp only [xM,xG,zG,cmp]; cases eqK kd kd'<;>rfl)
    all_goals (rw [hst]; simp only [xM,xG,xSh,xNg,cmp]; cases eqK kd kd'<;>rfl)
  · rfl
theorem zSb (op:AOp):yDd h op vs k q=zI h op vs k q:=by
  cases op<;>try rfl
  case mov =>
    show yFx h vs k q=_
    unfold yFx; split<;>rfl
  case pick =>
    show zRx h vs k q=_
    unfold zRx; split
    · rename_i c a b
      rw [qR h _ k q rfl rfl]
      cases c<;>rfl
    · rfl
  case alloc z =>
    show xXw h vs k q z=_
    unfold xXw; split
    · rw [xAt,xA1 rfl]
      simp only [gN,gW]; rfl
    · rfl
  case box =>
    show yFv h vs k q=_
    unfold yFv; split
    · rw [xAt,xA1 rfl]
      simp only [rC,gN,gW]; rfl
    · rfl
  case build z ps =>
    show xXx h vs k q z ps=_
    unfold xXx
    rw [xUn,qR h vs k q rfl (by cases vs<;>rfl)]
    show _=match (jO z ps vs).map AV.agg with | some v=>k v h | none=>q .bad
    cases jO z ps vs<;>rfl
  case buildSl n sz z ps =>
    show xNs h vs k q n sz z ps=_
    unfold xNs
    rw [xQ4,xAt,xA1 rfl]
    simp only [jX,gN,gW]
    cases mM sz z ps vs<;>rfl
  case load n =>
    show zRv h vs k q n=_
    unfold zRv; split<;>rfl
  case store n =>
    show xXz h vs k q n=_
    unfold xXz; split<;>rfl
  case bin op e=>exact zZs h vs k q op e
  case un op =>
    show qUn h vs k q op=_
    unfold qUn; split
    · rename_i b
      cases op<;>try rfl
      rw [qR h _ k q rfl rfl]
      cases b<;>rfl
    · rfl
  case conv c =>
    show zRu h vs k q c=_
    unfold zRu; split
    · rename_i x
      cases c<;>try rfl
      rename_i kd
      cases x<;>try rfl
    · rfl
  case mkIface t =>
    show xNu h vs k q t=_
    unfold xNu; split
    · rw [qR h _ k q rfl rfl]; rfl
    · rfl
  case mkFn f n =>
    show zRw h vs k q f n=_
    unfold zRw; split
    · rw [qR h vs k q rfl (by cases vs<;>rfl)]
      have:xM h (.mkFn f 0) vs=some (.fn f [] vs):=by cases vs<;>rfl
      rw [this]
    · rfl
  case fieldAddr off =>
    show xF2 h vs k q off=_
    unfold xF2; split
    · rename_i a
      cases a<;>try rfl
      rename_i cs
      show xZd cs off (fun cs=>k (.rptr cs) h) (q .bad)=_
      rw [xTv,qR h _ k q rfl rfl]
      simp only [xM]
      cases Nat.ble off cs.length<;>rfl
    · rfl
  case field off n =>
    show xXy h vs k q off n=_
    unfold xXy; split
    · rename_i cs
      rw [xNp,qR h _ k q rfl rfl]; rfl
    · rfl
  case indexAddr ix =>
    show xF3 h vs k q ix=_
    unfold xF3; split
    · rename_i x i
      cases ix with
      | slc sz =>
        cases x<;>try rfl
        case slc id off len sz' cap =>
          cases i<;>try rfl
          rename_i kd n
          simp only [asInt,pF]
          rw [qR h _ k q rfl rfl]
          simp only [xM,zF]
          cases (Nat.beq sz sz'&&leI 0 n&&ltI n (.ofNat len))<;>rfl
        case rslc len cs =>
          cases i<;>try rfl
          rename_i kd n
          simp only [asInt]
          rw [qR h _ k q rfl rfl]
          simp only [xM,zF]
          cases (leI 0 n&&ltI n (.ofNat len)) with
          | false=>rfl
          | true =>
            cases cs with
            | nil=>rfl
            | cons c cs=>simp only [cond_true,xTt]
      | arr len sz =>
        cases x<;>try rfl
        cases i<;>try rfl
        rename_i id off kd n
        simp only [asInt,pF]
        rw [qR h _ k q rfl rfl]
        simp only [xM,zF]
        cases (leI 0 n&&ltI n (.ofNat len))<;>rfl
    · rfl
  case extract i =>
    show xNt h vs k q i=_
    unfold xNt; split
    · rename_i ts
      rw [xXm,qR h _ k q rfl rfl]
      show _=match ts[i]? with | some v=>k v h | none=>q .bad
      cases ts[i]?<;>rfl
    · rfl
  case append sz bytes zs =>
    show xSg h vs k q sz bytes zs=_
    unfold xSg; split
    · cases zs<;>rfl
    · rfl
  case len l =>
    show yFw h vs k q l=_
    unfold yFw; split
    · rename_i v
      cases l<;>try rfl
      cases v<;>try rfl
      all_goals (rw [qR h _ k q rfl rfl]; rfl)
    · rfl
  case lookup kn zero ok =>
    show xSi h vs k q kn zero ok=_
    unfold xSi; split
    · rename_i m key
      cases m<;>try rfl
      rename_i id
      simp only
      rw [qR h _ k q rfl rfl]
      simp only [xM,xKz,mR]
      cases hg:h.t.get id with
      | none=>cases xBg kn key<;>rfl
      | some b =>
        cases b<;>simp only
        case amap es =>
          cases xBg kn key with
          | false=>rfl
          | true =>
            simp only [cond_true,yD3]
            cases bM kn key es with
            | none=>rfl
            | some r=>cases r<;>cases ok<;>rfl
        all_goals (cases xBg kn key<;>rfl)
    · rfl
  case mapUpd kn =>
    show xSj h vs k q kn=_
    unfold xSj; split
    · rename_i m key v
      cases m<;>rfl
    · rfl
  case call =>
    show zRt h vs k q=_
    unfold zRt; split
    · rw [xAt]; rfl
    · rfl
end
end Go.Abs.F
end
section
namespace Go.Abs.F
variable {β:Type}
abbrev dU (β:Type):=AV→List AV→H→(CRes→β)→β
abbrev xE9 (β:Type):=AV→List AV→Md→H→(DRes→β)→β
abbrev Kn (β:Type):=Tr AV→H→Rest→β
def Out.to (o:Out) (k:Kn β) (q:Out→β):β :=
  match o with
  | .nrm s=>k s.fr s.h (rest s)
  | o=>q o
theorem zAx (d:Option Pth) (v:AV) (fr:Tr AV) (h:H) (r:Rest) (k:Kn β):xKj d v fr (fun fr=>k fr h r)=k ((mk fr h r).put d v).fr ((mk fr h r).put d v).h (rest ((mk fr h r).put d v)) :=
  xBb d v fr h r (fun s=>k s.fr s.h (rest s))
noncomputable def zRg (call:dU β) (o:AOper) (vs:List AV) (fr:Tr AV) (h:H) (r:Rest) (k:Kn β) (q:Out→β):β :=
  yDd h o.op vs (fun v h=>xKj o.dst v fr fun fr=>k fr h r) (fun x =>
    match x with
    | .call f as1=>call f as1 h (fun c=>match c with
      | .ret v h=>xKj o.dst v fr fun fr=>k fr h r
      | .panic v h=>q (.panic v (mk fr h r))
      | .bad n=>q (.bad n))
    | .defer f as1=>match r.rd with
      | none=>xKj o.dst (.tup []) fr fun fr=>k fr h ⟨.call f as1::r.df,r.rc,none,r.fnid⟩
      | some _=>q (.bad 3)
    | .recover=>match r.rd with
      | some _=>q (.bad 6)
      | none=>match r.rc with
        | .pan v=>xKj o.dst v fr fun fr=>k fr h ⟨r.df,.recovered,none,r.fnid⟩
        | rc=>xKj o.dst .nili fr fun fr=>k fr h ⟨r.df,rc,none,r.fnid⟩
    | .panic v h=>q (.panic v (mk fr h r))
    | _=>q (.bad 4))
def xLa (callC:dU β) (call:jA):Prop:=∀ f as1 h k,callC f as1 h k=k (call f as1 h)
section
variable {callC:dU β} {call:jA} (hc:xLa callC call)
include hc
theorem zAn (o:AOper) (vs:List AV) (fr:Tr AV) (h:H) (r:Rest) (k:Kn β) (q:Out→β):zRg callC o vs fr h r k q=Out.to (yT call (mk fr h r) o vs) k q:=by
  obtain ⟨df,rc,rd,fnid⟩:=r
  unfold zRg
  rw [zSb,xAt]
  simp only [yT,mk]
  cases zS h o.op vs with
  | val v h'=>simp only [ORes.to,zAx]; rfl
  | call f as1 =>
    simp only [ORes.to]
    rw [hc]
    cases call f as1 h with
    | ret v h'=>simp only [zAx]; rfl
    | panic v h'=>rfl
    | bad n=>rfl
  | defer f as1 =>
    simp only [ORes.to,zAx]
    cases rd<;>rfl
  | recover =>
    simp only [ORes.to,zAx]
    cases rd with
    | some _=>rfl
    | none=>cases rc<;>rfl
  | panic v h'=>rfl
  | bad=>rfl
end
noncomputable def xWb (fr:Tr AV) (g:Option (Pth×Bool)) (zn zf zt:β):β :=
  match g with
  | none=>zt
  | some (t,want)=>match get fr t with
    | some (.bool b)=>bif b==want then zt else zf
    | some (.tup [])=>zf
    | _=>zn
theorem xWc (fr:Tr AV) (g:Option (Pth×Bool)) (zn zf zt:β):xWb fr g zn zf zt=match xI fr g with | none=>zn | some false=>zf | some true=>zt:=by
  cases g with
  | none=>rfl
  | some p =>
    obtain ⟨t,want⟩:=p
    simp only [xWb,xI,mR]
    cases fr.get t with
    | none=>rfl
    | some v =>
      cases v<;>try rfl
      · rename_i b
        simp only
        cases b==want<;>rfl
      · rename_i l
        cases l<;>rfl
noncomputable def zZd (X:Ctx) (call:dU β) (ops:List AOper):Kn (Kn β→(Out→β)→β) :=
  List.rec (motive:=fun _=>Kn (Kn β→(Out→β)→β)) (fun fr h r k _=>k fr h r)
    (fun o _ ih fr h r k q=>xWb fr o.guard (q (.bad 1)) (xKj o.dst (.tup []) fr fun fr=>ih fr h r k q)
      (xZz X fr o.args (q (.bad 2)) fun vs=>zRg call o vs fr h r (fun fr h r=>ih fr h r k q) q)) ops
noncomputable def xOn (ps:List Pend):H→(H→β)→β :=
  List.rec (motive:=fun _=>H→(H→β)→β) (fun h k=>k h) (fun p _ ih h k=>upd (some p.b) p.id h.t fun t=>ih ⟨h.next,t,h.ro⟩ k) ps
theorem xD7:∀ (ps:List Pend) (h:H) (k:H→β),xOn ps h k=k (h.withP ps)
  | [],h,k=>rfl
  | p::ps,h,k=>by
    show upd (some p.b) p.id h.t (fun t=>xOn ps ⟨h.next,t,h.ro⟩ k)=_
    rw [gN,xD7 ps]
    rfl
noncomputable def zS1 (h:H) (op:AOp) (vs:List AV) (k:AV→β) (z:β):β :=
  match op,vs with
  | .mov,[x]=>k x
  | .load n,[a]=>xN4 h n a k z
  | op,vs=>match xM h op vs with
    | some v=>nfV v k
    | none=>z
theorem zS2 (h:H) (op:AOp) (vs:List AV) (k:AV→β) (z:β):zS1 h op vs k z=match xM h op vs with | some v=>k v | none=>z:=by
  unfold zS1
  split
  · rfl
  · rw [xN5]
    simp only [xM]
    all_goals (cases vJ h _ _<;>rfl)
  · simp only [xEh]
abbrev Kd (β:Type):=Tr AV→H→Rest→List (Nat×H)→List Pend→List Log→β
def DOut.to (o:DOut) (k:Kd β) (q:Out→β):β :=
  match o with
  | .done d=>k d.s.fr d.s.h (rest d.s) d.hs d.pend d.log
  | .out o=>q o
noncomputable def xRk (X:Ctx) (call:dU β) (o:DOper) (i:Nat) (id:Pth) (fr:Tr AV) (h:H) (r:Rest) (hs:List (Nat×H)) (pend:List Pend) (log:List Log) (k:Kd β) (q:Out→β):β :=
  xWb fr o.o.guard (q (.bad 11))
    (xKj o.o.dst (.tup []) fr fun fr=>bif o.chain then k fr h r ((i,h)::hs) pend log else k fr h r hs pend log)
    (xZz X fr o.o.args (q (.bad 12)) fun vs =>
      bif o.chain then
        nfL (zT o.makers pend) fun tk=>xOn tk h fun h'=>zRg call o.o vs fr h' r
          (fun fr h' r=>bif o.last||quiet o.o.op then nfL (gF o.makers pend) fun pend=>k fr h' r ((i,h)::hs) pend log else q (.bad 18))
          (fun out=>match out with
            | .panic v s=>bif o.last&&log.all (fun l=>qE l ((i,h)::hs)) then q (.panic v s) else q (.bad 13)
            | .bad n=>q (.bad n)
            | _=>q (.bad 14))
      else bif xO o.o.op then
        match jX o.o.op vs id with
        | some (v,b)=>nfV v fun v=>nfB b fun b=>xKj o.o.dst v fr fun fr=>k fr h r hs (⟨i,id,b⟩::pend) log
        | none=>q (.bad 17)
      else
        nfL (zT o.makers pend) fun tk=>xOn tk h fun h'=>zS1 h' o.o.op vs (fun v=>xKj o.o.dst v fr fun fr =>
          bif xS o.o.op&&o.wide then k fr h r hs pend (⟨o.o.op,vs,v,o.lo,o.hi,tk⟩::log) else k fr h r hs pend log) (q (.bad 19)))
section
variable {callC:dU β} {call:jA} (hc:xLa callC call)
include hc
theorem zAp (X:Ctx):∀ (ops:List AOper) (fr:Tr AV) (h:H) (r:Rest) (k:Kn β) (q:Out→β),zZd X callC ops fr h r k q=Out.to (wK X call ops (mk fr h r)) k q
  | [],fr,h,r,k,q=>rfl
  | o :: ops,fr,h,r,k,q=>by
    show xWb fr o.guard (q (.bad 1)) (xKj o.dst (.tup []) fr fun fr=>zZd X callC ops fr h r k q)
      (xZz X fr o.args (q (.bad 2)) fun vs=>zRg callC o vs fr h r (fun fr h r=>zZd X callC ops fr h r k q) q)=_
    have ih:=zAp X ops
    rw [xWc,xMk]
    simp only [wK]
    show _=Out.to (match xI fr o.guard with | none=>_ | some false=>_ | some true=>_) k q
    cases xI fr o.guard with
    | none=>rfl
    | some b =>
      cases b with
      | false =>
        simp only [ih]
        exact xBb o.dst (.tup []) fr h r (fun s=>Out.to (wK X call ops s) k q)
      | true =>
        show (match xE X fr o.args with | some vs=>_ | none=>_)=Out.to (match xE X fr o.args with | none=>_ | some vs=>_) k q
        cases xE X fr o.args with
        | none=>rfl
        | some vs =>
          simp only [zAn hc]
          cases h1:yT call (mk fr h r) o vs with
          | nrm s=>simp only [Out.to]; rw [ih]; rfl
          | _=>rfl
theorem zBq (X:Ctx) (o:DOper) (i:Nat) (id:Pth) (fr:Tr AV) (h:H) (r:Rest) (hs:List (Nat×H)) (pend:List Pend) (log:List Log) (k:Kd β) (q:Out→β) :
    xRk X callC o i id fr h r hs pend log k q=DOut.to (kD X call o i id ⟨mk fr h r,hs,pend,log⟩) k q:=by
  unfold xRk kD
  rw [xWc,xMk]
  show _=DOut.to (match xI fr o.o.guard with | none=>_ | some false=>_ | some true=>_) k q
  cases xI fr o.o.guard with
  | none=>rfl
  | some b =>
    cases b with
    | false =>
      simp only
      cases o.chain with
      | true =>
        simp only [cond_true]
        exact xBb o.o.dst (.tup []) fr h r (fun s=>k s.fr s.h (rest s) ((i,h)::hs) pend log)
      | false =>
        simp only [cond_false]
        exact xBb o.o.dst (.tup []) fr h r (fun s=>k s.fr s.h (rest s) hs pend log)
    | true =>
      show (match xE X fr o.o.args with | some vs=>_ | none=>_)=DOut.to (match xE X fr o.o.args with | none=>_ | some vs=>_) k q
      cases xE X fr o.o.args with
      | none=>rfl
      | some vs =>
        simp only
        cases o.chain with
        | true =>
          simp only [cond_true,rC,xD7,zAn hc]
          show Out.to (yT call (mk fr (h.withP (zT o.makers pend)) r) o.o vs) _ _=DOut.to (match yT call (mk fr (h.withP (zT o.makers pend)) r) o.o vs with | .nrm s=>_ | .panic v s=>_ | .bad n=>_ | _=>_) k q
          cases yT call (mk fr (h.withP (zT o.makers pend)) r) o.o vs with
          | nrm s =>
            simp only [Out.to]
            cases (o.last||quiet o.o.op)<;>rfl
          | panic v s =>
            simp only [Out.to]
            show _=DOut.to (bif o.last&&log.all (fun l=>qE l ((i,h)::hs)) then _ else _) k q
            cases (o.last&&log.all (fun l=>qE l ((i,h)::hs)))<;>rfl
          | exit _ _=>rfl
          | ret _=>rfl
          | bad n=>rfl
        | false =>
          simp only [cond_false]
          cases xO o.o.op with
          | true =>
            simp only [cond_true]
            cases jX o.o.op vs id with
            | none=>rfl
            | some p =>
              obtain ⟨v,b⟩:=p
              simp only [xEh,xS5]
              exact xBb o.o.dst v fr h r (fun s=>k s.fr s.h (rest s) hs (⟨i,id,b⟩::pend) log)
          | false =>
            simp only [cond_false,rC,xD7,zS2]
            show (match xM (h.withP (zT o.makers pend)) o.o.op vs with | some v=>_ | none=>_)=DOut.to (match xM (h.withP (zT o.makers pend)) o.o.op vs with | some v=>_ | none=>_) k q
            cases xM (h.withP (zT o.makers pend)) o.o.op vs with
            | none=>rfl
            | some v =>
              simp only
              cases (xS o.o.op&&o.wide) with
              | true =>
                simp only [cond_true]
                exact xBb o.o.dst v fr h r (fun s=>k s.fr s.h (rest s) hs pend (⟨o.o.op,vs,v,o.lo,o.hi,zT o.makers pend⟩::log))
              | false =>
                simp only [cond_false]
                exact xBb o.o.dst v fr h r (fun s=>k s.fr s.h (rest s) hs pend log)
end
noncomputable def zHs (X:Ctx) (call:dU β) (ds:List DOper):Nat→Pth→Kd (Kd β→(Out→β)→β) :=
  List.rec (motive:=fun _=>Nat→Pth→Kd (Kd β→(Out→β)→β)) (fun _ _ fr h r hs pend log k _=>k fr h r hs pend log)
    (fun o _ ih i id fr h r hs pend log k q=>xRk X call o i id fr h r hs pend log (fun fr h r hs pend log=>xE6 id fun id=>ih (Nat.succ i) id fr h r hs pend log k q) q) ds
noncomputable def zHv (X:Ctx) (call:dU β) (ops:List DOper) (fr:Tr AV) (h:H) (r:Rest) (k:Kn β) (q:Out→β):β :=
  nfP (yJ ops.length h.next) fun nx=>zHs X call ops 0 h.next fr ⟨nx,h.t,h.ro⟩ r [] [] []
    (fun fr h r hs pend log=>bif log.all (fun l=>qE l ((ops.length,h)::hs)) then xOn pend h fun h=>k fr h r else q (.bad 21)) q
section
variable {callC:dU β} {call:jA} (hc:xLa callC call)
include hc
theorem xTs (X:Ctx):∀ (ds:List DOper) (i:Nat) (id:Pth) (fr:Tr AV) (h:H) (r:Rest) (hs:List (Nat×H)) (pend:List Pend) (log:List Log) (k:Kd β) (q:Out→β),
    zHs X callC ds i id fr h r hs pend log k q=DOut.to (jB X call ds i id ⟨mk fr h r,hs,pend,log⟩) k q
  | [],i,id,fr,h,r,hs,pend,log,k,q=>rfl
  | o::ds,i,id,fr,h,r,hs,pend,log,k,q=>by
    show xRk X callC o i id fr h r hs pend log (fun fr h r hs pend log=>xE6 id fun id=>zHs X callC ds (Nat.succ i) id fr h r hs pend log k q) q=_
    have ih:=xTs X ds
    rw [zBq hc]
    simp only [gW,ih,jB]
    cases kD X call o i id ⟨mk fr h r,hs,pend,log⟩ with
    | done d=>rfl
    | out o=>rfl
theorem zHw (X:Ctx) (ops:List DOper) (fr:Tr AV) (h:H) (r:Rest) (k:Kn β) (q:Out→β):zHv X callC ops fr h r k q=Out.to (mK X call ops (mk fr h r)) k q:=by
  unfold zHv mK
  rw [xA8,xTs hc]
  show DOut.to (jB X call ops 0 h.next ⟨mk fr ⟨yJ ops.length h.next,h.t,h.ro⟩ r,[],[],[]⟩) _ q=Out.to (match jB X call ops 0 h.next ⟨mk fr ⟨yJ ops.length h.next,h.t,h.ro⟩ r,[],[],[]⟩ with | .out r=>_ | .done d=>_) k q
  cases hd:jB X call ops 0 h.next ⟨mk fr ⟨yJ ops.length h.next,h.t,h.ro⟩ r,[],[],[]⟩ with
  | out o =>
    simp only [DOut.to]
    cases o with
    | nrm s =>
      exfalso
      have : ∀ (ds:List DOper) (i:Nat) (id:Pth) (d:DSt) (s:St),jB X call ds i id d≠.out (.nrm s):=by
        intro ds
        induction ds with
        | nil=>intro i id d s h; cases h
        | cons o ds ih =>
          intro i id d s h
          simp only [jB] at h
          cases hst:kD X call o i id d with
          | done d'=>rw [hst] at h; exact ih _ _ _ _ h
          | out r =>
            rw [hst] at h
            cases h
            rcases xPo hst with ⟨n,e⟩ | ⟨vs,v,s',e,_⟩<;>cases e
      exact this _ _ _ _ _ hd
    | _=>rfl
  | done d =>
    simp only [DOut.to,xD7]
    cases d.log.all (fun l=>qE l ((ops.length,d.s.h)::d.hs))<;>rfl
end
end Go.Abs.F
end
end
section
section
namespace Go.Abs.F
variable {β:Type}
noncomputable def zA4 (f:Kn (Kn β→(Out→β)→β)) (n:Nat):Kn (Kn β→(Out→β)→β) :=
  Nat.rec (motive:=fun _=>Kn (Kn β→(Out→β)→β)) (fun _ _ _ _ q=>q (.bad 5)) (fun _ ih fr h r k q=>f fr h r (fun fr h r=>ih fr h r k q) q) n
noncomputable def xBv (X:Ctx) (call:dU β) (c:ACode):Kn (Kn β→(Out→β)→β) :=
  ACode.rec (motive:=fun _=>Kn (Kn β→(Out→β)→β))
    (fun fr h r k _=>k fr h r)
    (fun ops=>zZd X call ops)
    (fun ops=>zHv X call ops)
    (fun _ _ iha ihb fr h r k q=>iha fr h r (fun fr h r=>ihb fr h r k q) q)
    (fun c _ _ iha ihb fr h r k q=>xJu X fr c (q (.bad 30)) (fun v=>match v with
      | .bool b=>bif b then iha fr h r k q else ihb fr h r k q
      | _=>q (.bad 30)))
    (fun id _ iha fr h r k q=>iha fr h r k (fun o=>match o with
      | .exit j s=>bif Nat.beq id j then k s.fr s.h (rest s) else q (.exit j s)
      | o=>q o))
    (fun _ iha=>zA4 iha X.fuel)
    (fun f params assign body _ _ fr h r k q=>xJu X fr f (q (.bad 31)) (fun fv =>
      let go (h:H) (d:Pth) (mark:List ADef):β :=
        xNe h (.loop .ready none r.fnid fr params assign body d) fun h2=>call fv [.yield h.next] h2 (fun c=>match c with
          | .ret _ h3=>match get h3.t h.next with
            | some (.loop .busy _ _ _ _ _ _ _)=>q (.bad 33)
            | some (.loop _ j f' fr' ps' as' bd' d')=>setH h3 h.next (.loop .exhausted j f' fr' ps' as' bd' d') fun h4=>nfL (mark++r.df) fun df=>match j with
              | none=>k fr h4 ⟨df,r.rc,r.rd,r.fnid⟩
              | some .ret=>q (.ret (mk fr h4 ⟨df,r.rc,r.rd,r.fnid⟩))
              | some (.exit i)=>q (.exit i (mk fr h4 ⟨df,r.rc,r.rd,r.fnid⟩))
            | _=>q (.bad 34)
          | .panic v h3=>q (.panic v (mk fr h3 ⟨mark++r.df,r.rc,r.rd,r.fnid⟩))
          | .bad n=>q (.bad n))
      match r.rd with
      | none=>xNe h (.dfr false) fun h1=>go h1 h.next [.coll h.next]
      | some l=>match get h.t l with
        | some (.loop _ _ _ _ _ _ _ d)=>go h d []
        | _=>q (.bad 32)))
    (fun id fr h r _ q=>q (.exit id (mk fr h r)))
    (fun fr h r _ q=>q (.ret (mk fr h r)))
    (fun _ _ _ _ q=>q (.bad 35)) c
section
variable {callC:dU β} {call:jA} (hc:xLa callC call)
theorem xV0 {f:Kn (Kn β→(Out→β)→β)} {g:St→Out} (hf:∀ fr h r k q,f fr h r k q=Out.to (g (mk fr h r)) k q):∀ (n:Nat) (fr:Tr AV) (h:H) (r:Rest) (k:Kn β) (q:Out→β),
    zA4 f n fr h r k q=Out.to (jQ g n (mk fr h r)) k q
  | 0,fr,h,r,k,q=>rfl
  | n+1,fr,h,r,k,q=>by
    show f fr h r (fun fr h r=>zA4 f n fr h r k q) q=_
    rw [hf]
    simp only [jQ]
    cases g (mk fr h r) with
    | nrm s=>exact xV0 hf n s.fr s.h (rest s) k q
    | _=>rfl
include hc
theorem bL (X:Ctx):∀ (c:ACode) (fr:Tr AV) (h:H) (r:Rest) (k:Kn β) (q:Out→β),xBv X callC c fr h r k q=Out.to (xF X call c (mk fr h r)) k q
  | .skip,fr,h,r,k,q=>rfl
  | .reg ops,fr,h,r,k,q=>zAp hc X ops fr h r k q
  | .dreg ops,fr,h,r,k,q=>zHw hc X ops fr h r k q
  | .seq a b,fr,h,r,k,q=>by
    show xBv X callC a fr h r (fun fr h r=>xBv X callC b fr h r k q) q=_
    rw [bL X a]
    simp only [xF]
    cases xF X call a (mk fr h r) with
    | nrm s=>exact bL X b s.fr s.h (rest s) k q
    | _=>rfl
  | .cond c a b,fr,h,r,k,q=>by
    show xJu X fr c (q (.bad 30)) (fun v=>match v with
      | .bool b'=>bif b' then xBv X callC a fr h r k q else xBv X callC b fr h r k q
      | _=>q (.bad 30))=_
    rw [xMl]
    simp only [xF]
    show _=Out.to (match xZ X fr c with | some (.bool true)=>_ | some (.bool false)=>_ | _=>_) k q
    cases xZ X fr c with
    | none=>rfl
    | some v =>
      cases v<;>try rfl
      rename_i bb
      cases bb with
      | true=>exact bL X a fr h r k q
      | false=>exact bL X b fr h r k q
  | .block id a,fr,h,r,k,q=>by
    show xBv X callC a fr h r k (fun o=>match o with
      | .exit j s=>bif Nat.beq id j then k s.fr s.h (rest s) else q (.exit j s)
      | o=>q o)=_
    rw [bL X a]
    simp only [xF]
    cases xF X call a (mk fr h r) with
    | exit j s =>
      simp only [Out.to]
      cases Nat.beq id j<;>rfl
    | _=>rfl
  | .loop a,fr,h,r,k,q=>by
    show zA4 (xBv X callC a) X.fuel fr h r k q=_
    exact xV0 (fun fr h r k q=>bL X a fr h r k q) X.fuel fr h r k q
  | .rangeFunc f params assign body,fr,h,r,k,q=>by
    have hgo : ∀ (fv:AV) (h:H) (d:Pth) (mark:List ADef),(xNe h (.loop .ready none r.fnid fr params assign body d) fun h2=>callC fv [.yield h.next] h2 (fun c=>match c with
          | .ret _ h3=>match get h3.t h.next with
            | some (.loop .busy _ _ _ _ _ _ _)=>q (.bad 33)
            | some (.loop _ j f' fr' ps' as' bd' d')=>setH h3 h.next (.loop .exhausted j f' fr' ps' as' bd' d') fun h4=>nfL (mark++r.df) fun df=>match j with
              | none=>k fr h4 ⟨df,r.rc,r.rd,r.fnid⟩
              | some .ret=>q (.ret (mk fr h4 ⟨df,r.rc,r.rd,r.fnid⟩))
              | some (.exit i)=>q (.exit i (mk fr h4 ⟨df,r.rc,r.rd,r.fnid⟩))
            | _=>q (.bad 34)
          | .panic v h3=>q (.panic v (mk fr h3 ⟨mark++r.df,r.rc,r.rd,r.fnid⟩))
          | .bad n=>q (.bad n))) =
        Out.to (match call fv [.yield h.next] (h.newB (.loop .ready none r.fnid fr params assign body d)) with
        | .ret _ h'=>match h'.t.get h.next with
          | some (.loop .busy _ _ _ _ _ _ _)=>.bad 33
          | some (.loop _ j f fr' ps as1 bd d) =>
            match j with
            | none=>.nrm ⟨fr,mark++r.df,h'.setB h.next (.loop .exhausted j f fr' ps as1 bd d),r.rc,r.rd,r.fnid⟩
            | some .ret=>.ret ⟨fr,mark++r.df,h'.setB h.next (.loop .exhausted j f fr' ps as1 bd d),r.rc,r.rd,r.fnid⟩
            | some (.exit i)=>.exit i ⟨fr,mark++r.df,h'.setB h.next (.loop .exhausted j f fr' ps as1 bd d),r.rc,r.rd,r.fnid⟩
          | _=>.bad 34
        | .panic v h'=>.panic v ⟨fr,mark++r.df,h',r.rc,r.rd,r.fnid⟩
        | .bad n=>.bad n) k q:=by
      intro fv h d mark
      rw [xG7,hc]
      cases call fv [.yield h.next] (h.newB (.loop .ready none r.fnid fr params assign body d)) with
      | bad n=>rfl
      | panic v h'=>rfl
      | ret v h' =>
        simp only [mR,xL7,rC]
        cases h'.t.get h.next with
        | none=>rfl
        | some b =>
          cases b<;>try rfl
          rename_i st j f' fr' ps' as' bd' d'
          cases st<;>first | rfl | (rcases j with _ | _ | _<;>rfl)
    show xJu X fr f (q (.bad 31)) (fun fv=>match r.rd with
      | none=>xNe h (.dfr false) fun h1=>(xNe h1 (.loop .ready none r.fnid fr params assign body h.next) fun h2=>_)
      | some l=>match get h.t l with
        | some (.loop _ _ _ _ _ _ _ d)=>(xNe h (.loop .ready none r.fnid fr params assign body d) fun h2=>_)
        | _=>q (.bad 32))=_
    rw [xMl]
    simp only [xF]
    show _=Out.to (match xZ X fr f with | none=>_ | some fv=>_) k q
    cases xZ X fr f with
    | none=>rfl
    | some fv =>
      obtain ⟨df,rc,rd,fnid⟩:=r
      cases rd with
      | none =>
        simp only [xG7 h]
        exact hgo fv (h.newB (.dfr false)) h.next [.coll h.next]
      | some l =>
        simp only [mk,mR]
        cases h.t.get l with
        | none=>rfl
        | some b =>
          cases b<;>try rfl
          rename_i st j f' fr' ps' as' bd' d'
          have hg:=hgo fv h d' []
          simp only [mR,mk] at hg
          exact hg
  | .exit id,fr,h,r,k,q=>rfl
  | .ret,fr,h,r,k,q=>rfl
  | .bad,fr,h,r,k,q=>rfl
end
noncomputable def resC (h:H) (fr:Tr AV) (rs:List ARes) (z:β):(List AV→β)→β :=
  List.rec (motive:=fun _=>(List AV→β)→β) (fun k=>k []) (fun r _ ih k=>match r with
    | .tmp t=>match get fr t with
      | some v=>ih (fun vs=>k (v::vs))
      | none=>z
    | .cell a n=>match get fr a with
      | some p=>xN4 h n p (fun v=>ih (fun vs=>k (v::vs))) z
      | none=>z) rs
theorem zB4 (h:H) (fr:Tr AV) (z:β):∀ (rs:List ARes) (k:List AV→β),resC h fr rs z k=match zB h fr rs with | some vs=>k vs | none=>z
  | [],k=>rfl
  | r :: rs,k=>by
    show (match r with
      | .tmp t=>match get fr t with
        | some v=>resC h fr rs z (fun vs=>k (v::vs))
        | none=>z
      | .cell a n=>match get fr a with
        | some p=>xN4 h n p (fun v=>resC h fr rs z (fun vs=>k (v::vs))) z
        | none=>z)=_
    have ih:=zB4 h fr z rs
    cases r with
    | tmp t =>
      simp only [zB,mR,ih]
      cases fr.get t with
      | none=>rfl
      | some v =>
        simp only
        cases zB h fr rs<;>rfl
    | cell a n =>
      simp only [zB,mR,ih,xN5]
      cases fr.get a with
      | none=>rfl
      | some p =>
        simp only
        cases vJ h n p with
        | none=>rfl
        | some v =>
          simp only
          cases zB h fr rs<;>rfl
noncomputable def xL6 (h:H) (fr:Tr AV) (rs:List ARes) (z:β) (k:AV→β):β :=
  resC h fr rs z (fun vs=>match vs with | [v]=>k v | vs=>k (.tup vs))
theorem xY2 (h:H) (fr:Tr AV) (rs:List ARes) (z:β) (k:AV→β):xL6 h fr rs z k=match zQ h fr rs with | some v=>k v | none=>z:=by
  unfold xL6 zQ
  rw [zB4]
  cases zB h fr rs with
  | none=>rfl
  | some vs=>rcases vs with _ | ⟨v,_ | ⟨_,_⟩⟩<;>rfl
noncomputable def xPm (callD:xE9 β) (ds:List ADef):Md→H→(Option (Md×H)→β)→β :=
  List.rec (motive:=fun _=>Md→H→(Option (Md×H)→β)→β) (fun m h k=>k (some (m,h)))
    (fun d _ ih m h k=>match d with
      | .coll id=>match get h.t id with
        | some (.dfr false)=>setH h id (.dfr true) fun h=>ih m h k
        | _=>k none
      | .call f as1=>callD f as1 m h (fun x=>match x with
        | .ok r h=>ih (match m with | .pan v=>bif r then .ret else .pan v | .ret=>.ret) h k
        | .panic v h=>ih (.pan v) h k
        | .bad _=>k none)) ds
theorem xLx {callDC:xE9 β} {callD:AV→List AV→Md→H→DRes} (hd:∀ f as1 m h k,callDC f as1 m h k=k (callD f as1 m h)):∀ (ds:List ADef) (m:Md) (h:H) (k:Option (Md×H)→β),xPm callDC ds m h k=k (qS callD ds m h)
  | [],m,h,k=>rfl
  | .coll id::ds,m,h,k=>by
    show (match get h.t id with
        | some (.dfr false)=>setH h id (.dfr true) fun h=>xPm callDC ds m h k
        | _=>k none)=_
    have ih:=xLx hd ds
    simp only [mR,xL7,ih,qS]
    cases h.t.get id with
    | none=>rfl
    | some b =>
      cases b<;>try rfl
      rename_i t
      cases t<;>rfl
  | .call f as1::ds,m,h,k=>by
    show callDC f as1 m h (fun x=>match x with
        | .ok r h=>xPm callDC ds (match m with | .pan v=>bif r then .ret else .pan v | .ret=>.ret) h k
        | .panic v h=>xPm callDC ds (.pan v) h k
        | .bad _=>k none)=_
    have ih:=xLx hd ds
    rw [hd]
    simp only [ih,qS]
    cases callD f as1 m h<;>rfl
noncomputable def xXa (callD:xE9 β) (F:AFunc) (k:CRes→β) (o:Out):β :=
  let done (m:Md) (s:St):β:=xPm callD s.df m s.h (fun x=>match x with
    | none=>k (.bad 40)
    | some (.ret,h)=>xL6 h s.fr F.results (k (.bad 41)) (fun v=>k (.ret v h))
    | some (.pan v,h)=>k (.panic v h))
  match o with
  | .nrm s | .ret s=>done .ret s
  | .panic v s=>done (.pan v) s
  | .exit _ _=>k (.bad 42)
  | .bad n=>k (.bad n)
theorem zBv {callDC:xE9 β} {callD:AV→List AV→Md→H→DRes} (hd:∀ f as1 m h k,callDC f as1 m h k=k (callD f as1 m h)) (F:AFunc) (k:CRes→β) (o:Out):xXa callDC F k o=k (yO callD F o):=by
  have key : ∀ (m:Md) (s:St),(xPm callDC s.df m s.h (fun x=>match x with
      | none=>k (.bad 40)
      | some (.ret,h)=>xL6 h s.fr F.results (k (.bad 41)) (fun v=>k (.ret v h))
      | some (.pan v,h)=>k (.panic v h)))=k (match qS callD s.df m s.h with
        | none=>.bad 40
        | some (.ret,h)=>match zQ h s.fr F.results with
          | some v=>.ret v h
          | none=>.bad 41
        | some (.pan v,h)=>.panic v h):=by
    intro m s
    rw [xLx hd]
    cases qS callD s.df m s.h with
    | none=>rfl
    | some p =>
      obtain ⟨m',h'⟩:=p
      cases m' with
      | ret =>
        simp only [xY2]
        cases zQ h' s.fr F.results<;>rfl
      | pan v=>rfl
  cases o with
  | nrm s=>exact key .ret s
  | ret s=>exact key .ret s
  | panic v s=>exact key (.pan v) s
  | exit _ _=>rfl
  | bad n=>rfl
noncomputable def frameC (vs:List AV):Pth→Tr AV→(Tr AV→β)→β :=
  List.rec (motive:=fun _=>Pth→Tr AV→(Tr AV→β)→β) (fun _ t k=>k t) (fun v _ ih i t k=>upd (some v) i t fun t=>xE6 i fun i=>ih i t k) vs
theorem xHu:∀ (vs:List AV) (i:Pth) (t:Tr AV) (k:Tr AV→β),frameC vs i t k=k (yI i vs t)
  | [],i,t,k=>rfl
  | v::vs,i,t,k=>by
    show upd (some v) i t (fun t=>xE6 i fun i=>frameC vs i t k)=_
    simp only [gN,gW,xHu vs]
    rfl
noncomputable def xSe (ps:List Pth):List AV→Tr AV→(Tr AV→β)→β :=
  List.rec (motive:=fun _=>List AV→Tr AV→(Tr AV→β)→β) (fun _ t k=>k t) (fun p _ ih vs t k=>match vs with
    | v::vs=>upd (some v) p t fun t=>ih vs t k
    | []=>k t) ps
theorem xNo:∀ (ps:List Pth) (vs:List AV) (t:Tr AV) (k:Tr AV→β),xSe ps vs t k=k (kB ps vs t)
  | [],vs,t,k=>by cases vs<;>rfl
  | p::ps,[],t,k=>rfl
  | p::ps,v::vs,t,k=>by
    show upd (some v) p t (fun t=>xSe ps vs t k)=_
    simp only [gN,xNo ps]
    rfl
section
variable (X:Ctx) (call:dU β) (callD:xE9 β)
noncomputable def xZ1 (f:AV) (as1:List AV) (h:H) (k:CRes→β):β :=
  match f with
  | .fn i first caught =>
    nfL (first++as1++caught) fun args =>
    match X.sums i args h with
    | some v=>k (.ret v h)
    | none =>
      match get X.funcs i with
      | some F=>frameC args .e .lf fun fr=>xBv X call F.body fr h ⟨[],.no,none,i⟩ (fun fr h r=>xXa callD F k (.nrm (mk fr h r))) (fun o=>xXa callD F k o)
      | none=>match X.exts i args h with
        | some (v,h')=>nfV v fun v=>k (.ret v h')
        | none=>k (.bad (1000+i.num))
  | .yield id =>
    match get h.t id with
    | some (.loop _ _ fn fr ps assign body _d) =>
      bif Nat.beq ps.length as1.length then
        xSe ps as1 fr fun fr=>xBv X call assign fr h ⟨[],.no,some id,fn⟩ (fun fr h r =>
          match get h.t id with
          | some (.loop .ready j fn fr0 ps0 as0 bd0 d0) =>
            setH h id (.loop .busy j fn fr0 ps0 as0 bd0 d0) fun h =>
            let fin (st:LState) (j:Option Jump) (s:St):β :=
              match s.df,get s.h.t id with
              | [],some (.loop _ _ fn fr0 ps0 as0 bd0 d0)=>setH s.h id (.loop st j fn fr0 ps0 as0 bd0 d0) fun h=>k (.ret (.bool (match j with | none=>true | some _=>false)) h)
              | _,_=>k (.bad 54)
            let out (o:Out):β:=match o with
              | .nrm s=>fin .ready none s
              | .ret s=>fin .done (some .ret) s
              | .exit i s=>fin .done (some (.exit i)) s
              | .panic v s=>match s.df with | []=>k (.panic v s.h) | _=>k (.bad 55)
              | .bad n=>k (.bad n)
            xBv X call body fr h r (fun fr h r=>out (.nrm (mk fr h r))) out
          | _=>k (.bad 52)) (fun o=>match o with
          | .bad n=>k (.bad n)
          | _=>k (.bad 53))
      else k (.bad 51)
    | _=>k (.bad 56)
  | _=>k (.bad 57)
noncomputable def xWu (f:AV) (as1:List AV) (m:Md) (h:H) (k:DRes→β):β :=
  match f with
  | .fn i first caught =>
    match get X.funcs i with
    | some F =>
      let out (o:Out):β:=match o with
        | .nrm s | .ret s=>match s.df,zQ s.h s.fr F.results with
          | [],some _=>k (.ok (match s.rc with | .recovered=>true | _=>false) s.h)
          | _,_=>k (.bad 61)
        | .panic v s=>match s.df with | []=>k (.panic v s.h) | _=>k (.bad 62)
        | .exit _ _=>k (.bad 63)
        | .bad n=>k (.bad n)
      nfL (first++as1++caught) fun args=>frameC args .e .lf fun fr=>xBv X call F.body fr h ⟨[],(match m with | .ret=>.no | .pan v=>.pan v),none,i⟩ (fun fr h r=>out (.nrm (mk fr h r))) out
    | none=>k (.bad 64)
  | _=>k (.bad 65)
end
noncomputable def xPj (X:Ctx) (n:Nat):dU β×xE9 β :=
  Nat.rec (motive:=fun _=>dU β×xE9 β) (fun _ _ _ k=>k (.bad 50),fun _ _ _ _ k=>k (.bad 60)) (fun _ ih=>(xZ1 X ih.1 ih.2,xWu X ih.1)) n
noncomputable def callC (X:Ctx) (n:Nat):dU β:=(xPj X n).1
theorem xTj (X : Ctx):∀ n,xLa (β:=β) (xPj X n).1 (xC X n)∧∀ f as1 m h k,(xPj (β:=β) X n).2 f as1 m h k=k (xA6 X n f as1 m h)
  | 0=>⟨fun _ _ _ _=>rfl,fun _ _ _ _ _=>rfl⟩
  | n + 1 => by
    obtain ⟨ih,ihd⟩:=xTj X n
    constructor
    · intro f as1 h k
      show xZ1 X (xPj X n).1 (xPj X n).2 f as1 h k=_
      cases f
      case fn i first caught =>
        simp only [xZ1,xC,rC,mR,xHu,xEh]
        cases X.sums i (first++as1++caught) h with
        | some v=>rfl
        | none =>
          simp only
          cases X.funcs.get i with
          | none =>
            simp only
            cases X.exts i (first++as1++caught) h with
            | none=>rfl
            | some v=>simp only
          | some F =>
            simp only [bL ih,zBv ihd]
            show Out.to (xF X (xC X n) F.body ⟨yI .e (first++as1++caught) .lf,[],h,.no,none,i⟩) _ _=_
            cases xF X (xC X n) F.body ⟨yI .e (first++as1++caught) .lf,[],h,.no,none,i⟩<;>rfl
      case yield id =>
        simp only [xZ1,xC,mR]
        cases h.t.get id with
        | none=>rfl
        | some b =>
          cases b<;>try rfl
          rename_i st j fn fr ps assign body d
          simp only
          cases Nat.beq ps.length as1.length with
          | false=>rfl
          | true =>
            simp only [cond_true,xNo,bL ih,xL7]
            show Out.to (xF X (xC X n) assign ⟨kB ps as1 fr,[],h,.no,some id,fn⟩) _ _=_
            cases xF X (xC X n) assign ⟨kB ps as1 fr,[],h,.no,some id,fn⟩ with
            | nrm s =>
              simp only [Out.to]
              cases s.h.t.get id with
              | none=>rfl
              | some b =>
                cases b<;>try rfl
                rename_i st1 j1 fn1 fr1 ps1 as1 bd1 d1
                cases st1<;>try rfl
                simp only
                have e:mk s.fr (s.h.setB id (.loop .busy j1 fn1 fr1 ps1 as1 bd1 d1)) (rest s)={ s with h:=s.h.setB id (.loop .busy j1 fn1 fr1 ps1 as1 bd1 d1) }:=rfl
                rw [e]
                have fin:∀ (st:LState) (j:Option Jump) (s:St),(match s.df,s.h.t.get id with
                    | [],some (.loop _ _ fn fr0 ps0 as0 bd0 d0)=>k (.ret (.bool (match j with | none=>true | some _=>false)) (s.h.setB id (.loop st j fn fr0 ps0 as0 bd0 d0)))
                    | _,_=>k (.bad 54))=k (match s.df,s.h.t.get id with
                    | [],some (.loop _ _ fn fr0 ps0 as0 bd0 d0)=>.ret (.bool (match j with | none=>true | some _=>false)) (s.h.setB id (.loop st j fn fr0 ps0 as0 bd0 d0))
                    | _,_=>.bad 54):=by
                  intro st j s
                  cases s.df with
                  | cons _ _=>rfl
                  | nil =>
                    cases s.h.t.get id with
                    | none=>rfl
                    | some b=>cases b<;>rfl
                cases xF X (xC X n) body { s with h:=s.h.setB id (.loop .busy j1 fn1 fr1 ps1 as1 bd1 d1) } with
                | nrm s=>exact fin .ready none s
                | ret s=>exact fin .done (some .ret) s
                | exit i s=>exact fin .done (some (.exit i)) s
                | panic v s =>
                  simp only
                  cases s.df<;>rfl
                | bad n=>rfl
            | _=>rfl
      all_goals rfl
    · intro f as1 m h k
      show xWu X (xPj X n).1 f as1 m h k=_
      cases f
      case fn i first caught =>
        simp only [xWu,xA6,rC,mR,xHu]
        cases X.funcs.get i with
        | none=>rfl
        | some F =>
          simp only [bL ih]
          show Out.to (xF X (xC X n) F.body ⟨yI .e (first++as1++caught) .lf,[],h,_,none,i⟩) _ _=_
          have fin:∀ s:St,(match s.df,zQ s.h s.fr F.results with
              | [],some _=>k (.ok (match s.rc with | .recovered=>true | _=>false) s.h)
              | _,_=>k (.bad 61))=k (match s.df,zQ s.h s.fr F.results with
              | [],some _=>.ok (match s.rc with | .recovered=>true | _=>false) s.h
              | _,_=>.bad 61):=by
            intro s
            cases s.df with
            | cons _ _=>rfl
            | nil=>cases zQ s.h s.fr F.results<;>rfl
          cases xF X (xC X n) F.body ⟨yI .e (first++as1++caught) .lf,[],h,(match m with | .ret=>.no | .pan v=>.pan v),none,i⟩ with
          | nrm s=>exact fin s
          | ret s=>exact fin s
          | panic v s =>
            simp only [Out.to]
            cases s.df<;>rfl
          | _=>rfl
      all_goals rfl
theorem callC_eq (X:Ctx) (n:Nat) (f:AV) (as1:List AV) (h:H) (k:CRes→β):callC X n f as1 h k=k (xC X n f as1 h):=(xTj X n).1 f as1 h k
end Go.Abs.F
end
section
namespace Go.Abs.T
open AV
set_option maxRecDepth 10000
def ixN:Nat→List Nat→Nat→Int
  | _,[],_=>.negSucc 0
  | k,b::l,c=>bif Nat.beq b c then .ofNat k else ixN (k+1) l c
def xUy:List Nat→List Nat→Bool
  | [],_=>true
  | _::_,[]=>false
  | a::x,b::y=>Nat.beq a b&&xUy x y
def xI0:Nat→List Nat→List Nat→Int
  | k,[],sub=>match sub with
    | []=>.ofNat k
    | _::_=>.negSucc 0
  | k,b::l,sub=>bif xUy sub (b::l) then .ofNat k else xI0 (k+1) l sub
def exts (i:Pth) (al:List AV) (h:H):Option (AV×H) :=
  bif Pth.beq i yCy then (match al with
    | [.str s,.int .u8 c]=>bif leI 0 c&&ltI c 256 then some (.int .i64 (ixN 0 s c.toNat),h) else none
    | _=>none)
  else bif Pth.beq i zA0 then (match al with
    | [.str s,.str sub]=>bif Nat.blt s.length 4000000000 then some (.int .i64 (xI0 0 s sub),h) else none
    | _=>none)
  else none
def X0:Ctx:={ globs:=.lf,funcs:=funcs,sums:=fun _ _ _=>none,exts:=exts,fuel:=100000 }
theorem row_of {X:Ctx} {n:Nat} {f:Pth} {a v:AV} (h:F.callC X n (.fn f [] []) [a] h0 (isV v)=true) (hf:frz a=true) (hp:qQ v=true):Row X f (a,v):=by
  rw [F.callC_eq] at h
  obtain ⟨h',e⟩:=zA3 h
  exact ⟨hf,hp,n,h',e⟩
end Go.Abs.T
end
end
end
