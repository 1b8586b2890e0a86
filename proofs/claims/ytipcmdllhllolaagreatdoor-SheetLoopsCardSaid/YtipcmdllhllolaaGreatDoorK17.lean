/- A part of the proof that LibSwaps answers true at every input: AbsFast4, AbsTab0. -/
import Derived.Test.YtipcmdllhllolaaGreatDoorK16
import Derived.Test.YtipcmdllhllolaaGreatDoorK05
noncomputable section
section
namespace Go.Abs.F
variable {β:Type}
noncomputable def iterC (f:Kn (Kn β→(Out→β)→β)) (n:Nat):Kn (Kn β→(Out→β)→β) :=
 Nat.rec (motive:=fun _=>Kn (Kn β→(Out→β)→β)) (fun _ _ _ _ q=>q (.bad 5)) (fun _ ih fr h r k q=>f fr h r (fun fr h r=>ih fr h r k q) q) n
noncomputable def execC (X:Ctx) (call:CallC β) (c:ACode):Kn (Kn β→(Out→β)→β) :=
 ACode.rec (motive:=fun _=>Kn (Kn β→(Out→β)→β))
  (fun fr h r k _=>k fr h r)
  (fun ops=>opsC X call ops)
  (fun ops=>dregC X call ops)
  (fun _ _ iha ihb fr h r k q=>iha fr h r (fun fr h r=>ihb fr h r k q) q)
  (fun c _ _ iha ihb fr h r k q=>evalO X fr c (q (.bad 30)) (fun v=>match v with
   | .bool b=>bif b then iha fr h r k q else ihb fr h r k q
   | _=>q (.bad 30)))
  (fun id _ iha fr h r k q=>iha fr h r k (fun o=>match o with
   | .exit j s=>bif Nat.beq id j then k s.fr s.h (rest s) else q (.exit j s)
   | o=>q o))
  (fun _ iha=>iterC iha X.fuel)
  (fun f params assign body _ _ fr h r k q=>evalO X fr f (q (.bad 31)) (fun fv =>
   let go (h:H) (d:Pth) (mark:List ADef):β :=
    newH h (.loop .ready none r.fnid fr params assign body d) fun h2=>call fv [.yield h.next] h2 (fun c=>match c with
     | .ret _ h3=>match get h3.t h.next with
      | some (.loop .busy _ _ _ _ _ _ _)=>q (.bad 33)
      | some (.loop _ j f' fr' ps' as_' bd' d')=>setH h3 h.next (.loop .exhausted j f' fr' ps' as_' bd' d') fun h4=>nfL (mark++r.df) fun df=>match j with
       | none=>k fr h4 ⟨df,r.rc,r.rd,r.fnid⟩
       | some .ret=>q (.ret (mk fr h4 ⟨df,r.rc,r.rd,r.fnid⟩))
       | some (.exit i)=>q (.exit i (mk fr h4 ⟨df,r.rc,r.rd,r.fnid⟩))
      | _=>q (.bad 34)
     | .panic v h3=>q (.panic v (mk fr h3 ⟨mark++r.df,r.rc,r.rd,r.fnid⟩))
     | .bad n=>q (.bad n))
   match r.rd with
   | none=>newH h (.dfr false) fun h1=>go h1 h.next [.coll h.next]
   | some l=>match get h.t l with
    | some (.loop _ _ _ _ _ _ _ d)=>go h d []
    | _=>q (.bad 32)))
  (fun id fr h r _ q=>q (.exit id (mk fr h r)))
  (fun fr h r _ q=>q (.ret (mk fr h r)))
  (fun _ _ _ _ q=>q (.bad 35)) c
section
variable {callC:CallC β} {call:CallF} (hc:CallEq callC call)
theorem iterC_eq {f:Kn (Kn β→(Out→β)→β)} {g:St→Out} (hf:∀ fr h r k q,f fr h r k q=Out.to (g (mk fr h r)) k q):∀ (n:Nat) (fr:Tr AV) (h:H) (r:Rest) (k:Kn β) (q:Out→β),
  iterC f n fr h r k q=Out.to (iterA g n (mk fr h r)) k q
 | 0,fr,h,r,k,q=>rfl
 | n+1,fr,h,r,k,q=>by
  show f fr h r (fun fr h r=>iterC f n fr h r k q) q=_
  rw [hf]
  simp only [iterA]
  cases g (mk fr h r) with
  | nrm s=>exact iterC_eq hf n s.fr s.h (rest s) k q
  | _=>rfl
include hc
theorem execC_eq (X:Ctx):∀ (c:ACode) (fr:Tr AV) (h:H) (r:Rest) (k:Kn β) (q:Out→β),execC X callC c fr h r k q=Out.to (execA X call c (mk fr h r)) k q
 | .skip,fr,h,r,k,q=>rfl
 | .reg ops,fr,h,r,k,q=>opsC_eq hc X ops fr h r k q
 | .dreg ops,fr,h,r,k,q=>dregC_eq hc X ops fr h r k q
 | .seq a b,fr,h,r,k,q=>by
  show execC X callC a fr h r (fun fr h r=>execC X callC b fr h r k q) q=_
  rw [execC_eq X a]
  simp only [execA]
  cases execA X call a (mk fr h r) with
  | nrm s=>exact execC_eq X b s.fr s.h (rest s) k q
  | _=>rfl
 | .cond c a b,fr,h,r,k,q=>by
  show evalO X fr c (q (.bad 30)) (fun v=>match v with
   | .bool b'=>bif b' then execC X callC a fr h r k q else execC X callC b fr h r k q
   | _=>q (.bad 30))=_
  rw [evalO_eq]
  simp only [execA]
  show _=Out.to (match evalA X fr c with | some (.bool true)=>_ | some (.bool false)=>_ | _=>_) k q
  cases evalA X fr c with
  | none=>rfl
  | some v =>
   cases v<;>try rfl
   rename_i bb
   cases bb with
   | true=>exact execC_eq X a fr h r k q
   | false=>exact execC_eq X b fr h r k q
 | .block id a,fr,h,r,k,q=>by
  show execC X callC a fr h r k (fun o=>match o with
   | .exit j s=>bif Nat.beq id j then k s.fr s.h (rest s) else q (.exit j s)
   | o=>q o)=_
  rw [execC_eq X a]
  simp only [execA]
  cases execA X call a (mk fr h r) with
  | exit j s =>
   simp only [Out.to]
   cases Nat.beq id j<;>rfl
  | _=>rfl
 | .loop a,fr,h,r,k,q=>by
  show iterC (execC X callC a) X.fuel fr h r k q=_
  exact iterC_eq (fun fr h r k q=>execC_eq X a fr h r k q) X.fuel fr h r k q
 | .rangeFunc f params assign body,fr,h,r,k,q=>by
  have hgo : ∀ (fv:AV) (h:H) (d:Pth) (mark:List ADef),(newH h (.loop .ready none r.fnid fr params assign body d) fun h2=>callC fv [.yield h.next] h2 (fun c=>match c with
     | .ret _ h3=>match get h3.t h.next with
      | some (.loop .busy _ _ _ _ _ _ _)=>q (.bad 33)
      | some (.loop _ j f' fr' ps' as_' bd' d')=>setH h3 h.next (.loop .exhausted j f' fr' ps' as_' bd' d') fun h4=>nfL (mark++r.df) fun df=>match j with
       | none=>k fr h4 ⟨df,r.rc,r.rd,r.fnid⟩
       | some .ret=>q (.ret (mk fr h4 ⟨df,r.rc,r.rd,r.fnid⟩))
       | some (.exit i)=>q (.exit i (mk fr h4 ⟨df,r.rc,r.rd,r.fnid⟩))
      | _=>q (.bad 34)
     | .panic v h3=>q (.panic v (mk fr h3 ⟨mark++r.df,r.rc,r.rd,r.fnid⟩))
     | .bad n=>q (.bad n))) =
    Out.to (match call fv [.yield h.next] (h.newB (.loop .ready none r.fnid fr params assign body d)) with
    | .ret _ h'=>match h'.t.get h.next with
     | some (.loop .busy _ _ _ _ _ _ _)=>.bad 33
     | some (.loop _ j f fr' ps as_ bd d) =>
      match j with
      | none=>.nrm ⟨fr,mark++r.df,h'.setB h.next (.loop .exhausted j f fr' ps as_ bd d),r.rc,r.rd,r.fnid⟩
      | some .ret=>.ret ⟨fr,mark++r.df,h'.setB h.next (.loop .exhausted j f fr' ps as_ bd d),r.rc,r.rd,r.fnid⟩
      | some (.exit i)=>.exit i ⟨fr,mark++r.df,h'.setB h.next (.loop .exhausted j f fr' ps as_ bd d),r.rc,r.rd,r.fnid⟩
     | _=>.bad 34
    | .panic v h'=>.panic v ⟨fr,mark++r.df,h',r.rc,r.rd,r.fnid⟩
    | .bad n=>.bad n) k q:=by
   intro fv h d mark
   rw [newH_eq,hc]
   cases call fv [.yield h.next] (h.newB (.loop .ready none r.fnid fr params assign body d)) with
   | bad n=>rfl
   | panic v h'=>rfl
   | ret v h' =>
    simp only [get_eq,setH_eq,nfL_eq]
    cases h'.t.get h.next with
    | none=>rfl
    | some b =>
     cases b<;>try rfl
     rename_i st j f' fr' ps' as_' bd' d'
     cases st<;>first | rfl | (rcases j with _ | _ | _<;>rfl)
  show evalO X fr f (q (.bad 31)) (fun fv=>match r.rd with
   | none=>newH h (.dfr false) fun h1=>(newH h1 (.loop .ready none r.fnid fr params assign body h.next) fun h2=>_)
   | some l=>match get h.t l with
    | some (.loop _ _ _ _ _ _ _ d)=>(newH h (.loop .ready none r.fnid fr params assign body d) fun h2=>_)
    | _=>q (.bad 32))=_
  rw [evalO_eq]
  simp only [execA]
  show _=Out.to (match evalA X fr f with | none=>_ | some fv=>_) k q
  cases evalA X fr f with
  | none=>rfl
  | some fv =>
   obtain ⟨df,rc,rd,fnid⟩:=r
   cases rd with
   | none =>
    simp only [newH_eq h]
    exact hgo fv (h.newB (.dfr false)) h.next [.coll h.next]
   | some l =>
    simp only [mk,get_eq]
    cases h.t.get l with
    | none=>rfl
    | some b =>
     cases b<;>try rfl
     rename_i st j f' fr' ps' as_' bd' d'
     have hg:=hgo fv h d' []
     simp only [get_eq,mk] at hg
     exact hg
 | .exit id,fr,h,r,k,q=>rfl
 | .ret,fr,h,r,k,q=>rfl
 | .bad,fr,h,r,k,q=>rfl
end
noncomputable def resC (h:H) (fr:Tr AV) (rs:List ARes) (z:β):(List AV→β)→β :=
 List.rec (motive:=fun _=>(List AV→β)→β) (fun k=>k []) (fun r _ ih k=>match r with
  | .tmp t=>match get fr t with
   | some v=>ih (fun vs=>k (v::vs))
   | none=>z
  | .cell a n=>match get fr a with
   | some p=>loadC h n p (fun v=>ih (fun vs=>k (v::vs))) z
   | none=>z) rs
theorem resC_eq (h:H) (fr:Tr AV) (z:β):∀ (rs:List ARes) (k:List AV→β),resC h fr rs z k=match resultsA h fr rs with | some vs=>k vs | none=>z
 | [],k=>rfl
 | r :: rs,k=>by
  show (match r with
   | .tmp t=>match get fr t with
    | some v=>resC h fr rs z (fun vs=>k (v::vs))
    | none=>z
   | .cell a n=>match get fr a with
    | some p=>loadC h n p (fun v=>resC h fr rs z (fun vs=>k (v::vs))) z
    | none=>z)=_
  have ih:=resC_eq h fr z rs
  cases r with
  | tmp t =>
   simp only [resultsA,get_eq,ih]
   cases fr.get t with
   | none=>rfl
   | some v =>
    simp only
    cases resultsA h fr rs<;>rfl
  | cell a n =>
   simp only [resultsA,get_eq,ih,loadC_eq]
   cases fr.get a with
   | none=>rfl
   | some p =>
    simp only
    cases loadA h n p with
    | none=>rfl
    | some v =>
     simp only
     cases resultsA h fr rs<;>rfl
noncomputable def resultC (h:H) (fr:Tr AV) (rs:List ARes) (z:β) (k:AV→β):β :=
 resC h fr rs z (fun vs=>match vs with | [v]=>k v | vs=>k (.tup vs))
theorem resultC_eq (h:H) (fr:Tr AV) (rs:List ARes) (z:β) (k:AV→β):resultC h fr rs z k=match resultA h fr rs with | some v=>k v | none=>z:=by
 unfold resultC resultA
 rw [resC_eq]
 cases resultsA h fr rs with
 | none=>rfl
 | some vs=>rcases vs with _ | ⟨v,_ | ⟨_,_⟩⟩<;>rfl
noncomputable def dfrsC (callD:CallDC β) (ds:List ADef):Md→H→(Option (Md×H)→β)→β :=
 List.rec (motive:=fun _=>Md→H→(Option (Md×H)→β)→β) (fun m h k=>k (some (m,h)))
  (fun d _ ih m h k=>match d with
   | .coll id=>match get h.t id with
    | some (.dfr false)=>setH h id (.dfr true) fun h=>ih m h k
    | _=>k none
   | .call f as_=>callD f as_ m h (fun x=>match x with
    | .ok r h=>ih (match m with | .pan v=>bif r then .ret else .pan v | .ret=>.ret) h k
    | .panic v h=>ih (.pan v) h k
    | .bad _=>k none)) ds
theorem dfrsC_eq {callDC:CallDC β} {callD:AV→List AV→Md→H→DRes} (hd:∀ f as_ m h k,callDC f as_ m h k=k (callD f as_ m h)):∀ (ds:List ADef) (m:Md) (h:H) (k:Option (Md×H)→β),dfrsC callDC ds m h k=k (dfrsA callD ds m h)
 | [],m,h,k=>rfl
 | .coll id::ds,m,h,k=>by
  show (match get h.t id with
    | some (.dfr false)=>setH h id (.dfr true) fun h=>dfrsC callDC ds m h k
    | _=>k none)=_
  have ih:=dfrsC_eq hd ds
  simp only [get_eq,setH_eq,ih,dfrsA]
  cases h.t.get id with
  | none=>rfl
  | some b =>
   cases b<;>try rfl
   rename_i t
   cases t<;>rfl
 | .call f as_::ds,m,h,k=>by
  show callDC f as_ m h (fun x=>match x with
    | .ok r h=>dfrsC callDC ds (match m with | .pan v=>bif r then .ret else .pan v | .ret=>.ret) h k
    | .panic v h=>dfrsC callDC ds (.pan v) h k
    | .bad _=>k none)=_
  have ih:=dfrsC_eq hd ds
  rw [hd]
  simp only [ih,dfrsA]
  cases callD f as_ m h<;>rfl
noncomputable def leaveC (callD:CallDC β) (F:AFunc) (k:CRes→β) (o:Out):β :=
 let done (m:Md) (s:St):β:=dfrsC callD s.df m s.h (fun x=>match x with
  | none=>k (.bad 40)
  | some (.ret,h)=>resultC h s.fr F.results (k (.bad 41)) (fun v=>k (.ret v h))
  | some (.pan v,h)=>k (.panic v h))
 match o with
 | .nrm s | .ret s=>done .ret s
 | .panic v s=>done (.pan v) s
 | .exit _ _=>k (.bad 42)
 | .bad n=>k (.bad n)
theorem leaveC_eq {callDC:CallDC β} {callD:AV→List AV→Md→H→DRes} (hd:∀ f as_ m h k,callDC f as_ m h k=k (callD f as_ m h)) (F:AFunc) (k:CRes→β) (o:Out):leaveC callDC F k o=k (leaveA callD F o):=by
 have key : ∀ (m:Md) (s:St),(dfrsC callDC s.df m s.h (fun x=>match x with
   | none=>k (.bad 40)
   | some (.ret,h)=>resultC h s.fr F.results (k (.bad 41)) (fun v=>k (.ret v h))
   | some (.pan v,h)=>k (.panic v h)))=k (match dfrsA callD s.df m s.h with
    | none=>.bad 40
    | some (.ret,h)=>match resultA h s.fr F.results with
     | some v=>.ret v h
     | none=>.bad 41
    | some (.pan v,h)=>.panic v h):=by
  intro m s
  rw [dfrsC_eq hd]
  cases dfrsA callD s.df m s.h with
  | none=>rfl
  | some p =>
   obtain ⟨m',h'⟩:=p
   cases m' with
   | ret =>
    simp only [resultC_eq]
    cases resultA h' s.fr F.results<;>rfl
   | pan v=>rfl
 cases o with
 | nrm s=>exact key .ret s
 | ret s=>exact key .ret s
 | panic v s=>exact key (.pan v) s
 | exit _ _=>rfl
 | bad n=>rfl
noncomputable def frameC (vs:List AV):Pth→Tr AV→(Tr AV→β)→β :=
 List.rec (motive:=fun _=>Pth→Tr AV→(Tr AV→β)→β) (fun _ t k=>k t) (fun v _ ih i t k=>upd (some v) i t fun t=>nfP i.succ fun i=>ih i t k) vs
theorem frameC_eq:∀ (vs:List AV) (i:Pth) (t:Tr AV) (k:Tr AV→β),frameC vs i t k=k (frameOf i vs t)
 | [],i,t,k=>rfl
 | v::vs,i,t,k=>by
  show upd (some v) i t (fun t=>nfP i.succ fun i=>frameC vs i t k)=_
  simp only [upd_put,nfP_eq,frameC_eq vs]
  rfl
noncomputable def paramsC (ps:List Pth):List AV→Tr AV→(Tr AV→β)→β :=
 List.rec (motive:=fun _=>List AV→Tr AV→(Tr AV→β)→β) (fun _ t k=>k t) (fun p _ ih vs t k=>match vs with
  | v::vs=>upd (some v) p t fun t=>ih vs t k
  | []=>k t) ps
theorem paramsC_eq:∀ (ps:List Pth) (vs:List AV) (t:Tr AV) (k:Tr AV→β),paramsC ps vs t k=k (setParams ps vs t)
 | [],vs,t,k=>by cases vs<;>rfl
 | p::ps,[],t,k=>rfl
 | p::ps,v::vs,t,k=>by
  show upd (some v) p t (fun t=>paramsC ps vs t k)=_
  simp only [upd_put,paramsC_eq ps]
  rfl
section
variable (X:Ctx) (call:CallC β) (callD:CallDC β)
noncomputable def callS (f:AV) (as_:List AV) (h:H) (k:CRes→β):β :=
 match f with
 | .fn i first caught =>
  nfL (first++as_++caught) fun args =>
  match X.sums i args h with
  | some v=>k (.ret v h)
  | none =>
   match get X.funcs i with
   | some F=>frameC args .e .lf fun fr=>execC X call F.body fr h ⟨[],.no,none,i⟩ (fun fr h r=>leaveC callD F k (.nrm (mk fr h r))) (fun o=>leaveC callD F k o)
   | none=>match X.exts i args h with
    | some (v,h')=>nfV v fun v=>k (.ret v h')
    | none=>k (.bad (1000+i.num))
 | .yield id =>
  match get h.t id with
  | some (.loop _ _ fn fr ps assign body _d) =>
   bif Nat.beq ps.length as_.length then
    paramsC ps as_ fr fun fr=>execC X call assign fr h ⟨[],.no,some id,fn⟩ (fun fr h r =>
     match get h.t id with
     | some (.loop .ready j fn fr0 ps0 as0 bd0 d0) =>
      setH h id (.loop .busy j fn fr0 ps0 as0 bd0 d0) fun h =>
      let fin (st:LState) (j:Option Jump) (s:St):β :=
       match s.df,get s.h.t id with
       | [],some (.loop _ _ fn fr0 ps0 as0 bd0 d0)=>setH s.h id (.loop st j fn fr0 ps0 as0 bd0 d0) fun h=>k (.ret (.bool (match j with | none=>true | some _=>false)) h)
       | _,_=>k (.bad 54)
      let out (o:Out):β:=match o with
       | .nrm s=>fin .ready none s
       | .ret s=>fin .done (some .ret) s
       | .exit i s=>fin .done (some (.exit i)) s
       | .panic v s=>match s.df with | []=>k (.panic v s.h) | _=>k (.bad 55)
       | .bad n=>k (.bad n)
      execC X call body fr h r (fun fr h r=>out (.nrm (mk fr h r))) out
     | _=>k (.bad 52)) (fun o=>match o with
     | .bad n=>k (.bad n)
     | _=>k (.bad 53))
   else k (.bad 51)
  | _=>k (.bad 56)
 | _=>k (.bad 57)
noncomputable def dcallS (f:AV) (as_:List AV) (m:Md) (h:H) (k:DRes→β):β :=
 match f with
 | .fn i first caught =>
  match get X.funcs i with
  | some F =>
   let out (o:Out):β:=match o with
    | .nrm s | .ret s=>match s.df,resultA s.h s.fr F.results with
     | [],some _=>k (.ok (match s.rc with | .recovered=>true | _=>false) s.h)
     | _,_=>k (.bad 61)
    | .panic v s=>match s.df with | []=>k (.panic v s.h) | _=>k (.bad 62)
    | .exit _ _=>k (.bad 63)
    | .bad n=>k (.bad n)
   nfL (first++as_++caught) fun args=>frameC args .e .lf fun fr=>execC X call F.body fr h ⟨[],(match m with | .ret=>.no | .pan v=>.pan v),none,i⟩ (fun fr h r=>out (.nrm (mk fr h r))) out
  | none=>k (.bad 64)
 | _=>k (.bad 65)
end
noncomputable def callB (X:Ctx) (n:Nat):CallC β×CallDC β :=
 Nat.rec (motive:=fun _=>CallC β×CallDC β) (fun _ _ _ k=>k (.bad 50),fun _ _ _ _ k=>k (.bad 60)) (fun _ ih=>(callS X ih.1 ih.2,dcallS X ih.1)) n
noncomputable def callC (X:Ctx) (n:Nat):CallC β:=(callB X n).1
theorem callB_eq (X : Ctx):∀ n,CallEq (β:=β) (callB X n).1 (callN X n)∧∀ f as_ m h k,(callB (β:=β) X n).2 f as_ m h k=k (dcallN X n f as_ m h)
 | 0=>⟨fun _ _ _ _=>rfl,fun _ _ _ _ _=>rfl⟩
 | n + 1 => by
  obtain ⟨ih,ihd⟩:=callB_eq X n
  constructor
  ·intro f as_ h k
   show callS X (callB X n).1 (callB X n).2 f as_ h k=_
   cases f
   case fn i first caught =>
    simp only [callS,callN,nfL_eq,get_eq,frameC_eq,nfV_eq]
    cases X.sums i (first++as_++caught) h with
    | some v=>rfl
    | none =>
     simp only
     cases X.funcs.get i with
     | none =>
      simp only
      cases X.exts i (first++as_++caught) h with
      | none=>rfl
      | some v=>simp only
     | some F =>
      simp only [execC_eq ih,leaveC_eq ihd]
      show Out.to (execA X (callN X n) F.body ⟨frameOf .e (first++as_++caught) .lf,[],h,.no,none,i⟩) _ _=_
      cases execA X (callN X n) F.body ⟨frameOf .e (first++as_++caught) .lf,[],h,.no,none,i⟩<;>rfl
   case yield id =>
    simp only [callS,callN,get_eq]
    cases h.t.get id with
    | none=>rfl
    | some b =>
     cases b<;>try rfl
     rename_i st j fn fr ps assign body d
     simp only
     cases Nat.beq ps.length as_.length with
     | false=>rfl
     | true =>
      simp only [cond_true,paramsC_eq,execC_eq ih,setH_eq]
      show Out.to (execA X (callN X n) assign ⟨setParams ps as_ fr,[],h,.no,some id,fn⟩) _ _=_
      cases execA X (callN X n) assign ⟨setParams ps as_ fr,[],h,.no,some id,fn⟩ with
      | nrm s =>
       simp only [Out.to]
       cases s.h.t.get id with
       | none=>rfl
       | some b =>
        cases b<;>try rfl
        rename_i st1 j1 fn1 fr1 ps1 as1 bd1 d1
        cases st1<;>try rfl
        simp only
        have e:mk s.fr (s.h.setB id (.loop .busy j1 fn1 fr1 ps1 as1 bd1 d1)) (rest s)={ s with h:=s.h.setB id (.loop .busy j1 fn1 fr1 ps1 as1 bd1 d1) }:=rfl
        rw [e]
        have fin:∀ (st:LState) (j:Option Jump) (s:St),(match s.df,s.h.t.get id with
          | [],some (.loop _ _ fn fr0 ps0 as0 bd0 d0)=>k (.ret (.bool (match j with | none=>true | some _=>false)) (s.h.setB id (.loop st j fn fr0 ps0 as0 bd0 d0)))
          | _,_=>k (.bad 54))=k (match s.df,s.h.t.get id with
          | [],some (.loop _ _ fn fr0 ps0 as0 bd0 d0)=>.ret (.bool (match j with | none=>true | some _=>false)) (s.h.setB id (.loop st j fn fr0 ps0 as0 bd0 d0))
          | _,_=>.bad 54):=by
         intro st j s
         cases s.df with
         | cons _ _=>rfl
         | nil =>
          cases s.h.t.get id with
          | none=>rfl
          | some b=>cases b<;>rfl
        cases execA X (callN X n) body { s with h:=s.h.setB id (.loop .busy j1 fn1 fr1 ps1 as1 bd1 d1) } with
        | nrm s=>exact fin .ready none s
        | ret s=>exact fin .done (some .ret) s
        | exit i s=>exact fin .done (some (.exit i)) s
        | panic v s =>
         simp only
         cases s.df<;>rfl
        | bad n=>rfl
      | _=>rfl
   all_goals rfl
  ·intro f as_ m h k
   show dcallS X (callB X n).1 f as_ m h k=_
   cases f
   case fn i first caught =>
    simp only [dcallS,dcallN,nfL_eq,get_eq,frameC_eq]
    cases X.funcs.get i with
    | none=>rfl
    | some F =>
     simp only [execC_eq ih]
     show Out.to (execA X (callN X n) F.body ⟨frameOf .e (first++as_++caught) .lf,[],h,_,none,i⟩) _ _=_
     have fin:∀ s:St,(match s.df,resultA s.h s.fr F.results with
       | [],some _=>k (.ok (match s.rc with | .recovered=>true | _=>false) s.h)
       | _,_=>k (.bad 61))=k (match s.df,resultA s.h s.fr F.results with
       | [],some _=>.ok (match s.rc with | .recovered=>true | _=>false) s.h
       | _,_=>.bad 61):=by
      intro s
      cases s.df with
      | cons _ _=>rfl
      | nil=>cases resultA s.h s.fr F.results<;>rfl
     cases execA X (callN X n) F.body ⟨frameOf .e (first++as_++caught) .lf,[],h,(match m with | .ret=>.no | .pan v=>.pan v),none,i⟩ with
     | nrm s=>exact fin s
     | ret s=>exact fin s
     | panic v s =>
      simp only [Out.to]
      cases s.df<;>rfl
     | _=>rfl
   all_goals rfl
theorem callC_eq (X:Ctx) (n:Nat) (f:AV) (as_:List AV) (h:H) (k:CRes→β):callC X n f as_ h k=k (callN X n f as_ h):=(callB_eq X n).1 f as_ h k
end Go.Abs.F
end
section
namespace Go.Abs.T
open AV
set_option maxRecDepth 10000
def ixN:Nat→List Nat→Nat→Int
 | _,[],_=>.negSucc 0
 | k,b::l,c=>bif Nat.beq b c then .ofNat k else ixN (k+1) l c
def cntN:List Nat→Nat→Nat
 | [],_=>0
 | b::l,c=>bif Nat.beq b c then cntN l c+1 else cntN l c
def isPre:List Nat→List Nat→Bool
 | [],_=>true
 | _::_,[]=>false
 | a::x,b::y=>Nat.beq a b&&isPre x y
def indexN:Nat→List Nat→List Nat→Int
 | k,[],sub=>match sub with
  | []=>.ofNat k
  | _::_=>.negSucc 0
 | k,b::l,sub=>bif isPre sub (b::l) then .ofNat k else indexN (k+1) l sub
def joinN (sep:List Nat):List (List Nat)→List Nat
 | []=>[]
 | a::l=>match l with
  | []=>a
  | b::l=>a++(sep++joinN sep (b::l))
def strsJ:List AV→Option (List (List Nat))
 | []=>some []
 | .str s::l=>(strsJ l).map (s :: ·)
 | _::_=>none
def joinH (h:H) (x:AV) (sep:List Nat):Option (AV×H) :=
 match x with
 | .str _=>none
 | x => match lenA x with
  | some n=>match firstA h 1 n x with
   | some l=>match strsJ l with
    | some ls=>bif Nat.blt n 1000000&&Nat.blt (joinN sep ls).length 1000000 then some (.str (joinN sep ls),h) else none
    | none=>none
   | none=>none
  | none=>none
def exts (i:Pth) (al:List AV) (h:H):Option (AV×H) :=
 bif Pth.beq i f_ixb then (match al with
  | [.str s,.int .u8 c]=>bif leI 0 c&&ltI c 256 then some (.int .i64 (ixN 0 s c.toNat),h) else none
  | _=>none)
 else bif Pth.beq i f_cnt then (match al with
  | [.str s,.int .u8 c]=>bif leI 0 c&&ltI c 256 then some (.int .i64 (.ofNat (cntN s c.toNat)),h) else none
  | _=>none)
 else bif Pth.beq i f_grow then (match al with
  | [.nils,.int .i64 (.ofNat n)]=>bif Nat.beq n 0 then some (.nils,h) else bif Nat.blt n 1000000 then some (.slc h.next 0 0 1 none,h.newB (.cells [] true)) else none
  | _=>none)
 else bif Pth.beq i f_join then (match al with
  | [x,.str sep]=>joinH h x sep
  | _=>none)
 else bif Pth.beq i f_index then (match al with
  | [.str s,.str sub]=>bif Nat.blt s.length 4000000000 then some (.int .i64 (indexN 0 s sub),h) else none
  | _=>none)
 else none
def X0:Ctx:={ globs:=.lf,funcs:=funcs,sums:=fun _ _ _=>none,exts:=exts,fuel:=100000 }
end Go.Abs.T
end
end
