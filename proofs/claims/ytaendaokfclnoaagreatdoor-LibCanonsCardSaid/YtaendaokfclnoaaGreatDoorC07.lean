/- A part of the proof that LibSwaps answers true at every input: AbsRead5, AbsRead6, AbsRead7, AbsRead8. -/
import Derived.Test.YtaendaokfclnoaaGreatDoorC06
noncomputable section
section
namespace Go.Abs
variable [envI:Env]
section
variable {P:Program} {X:Ctx} {ρ:Nm} {h:H} {w:World} {L:Nat→Prop}
omit envI in
theorem xAl {kt:TypeId} {kn:KeyK} (e:xP1 P kt=some kn):mZ P 10 kt=some kn.ks ∧
    (kn.agg=true∧(∃ D,P.underlying kt=some D∧(match D with | .struct _ | .array _ _=>True | _=>False)) ∨
     kn.agg=false∧(∃ D,P.underlying kt=some D∧(match D with | .struct _ | .array _ _=>False | _=>True))):=by
  unfold xP1 at e
  simp only [Option.bind_eq_bind,Option.bind_eq_some_iff] at e
  obtain ⟨ks,h1,h2⟩:=e
  have hd:∃ D,P.underlying kt=some D:=by
    rcases mD h1 with ⟨hu,_⟩ | ⟨⟨k,hu⟩,_⟩ | ⟨hu,_⟩ | ⟨fs,hu,_⟩<;>exact ⟨_,hu⟩
  obtain ⟨D,hD⟩:=hd
  rw [hD] at h2
  cases D<;>simp only [Option.pure_def,Option.some.injEq] at h2<;>subst h2<;>refine ⟨h1,?_⟩<;>first
    | exact .inr ⟨rfl,_,hD,trivial⟩
    | exact .inl ⟨rfl,_,hD,trivial⟩
theorem dQ {kt:TypeId} {kn:KeyK} (e:xP1 P kt=some kn) {k:AV} {xs:List AV} (hk:mN kn k=some xs) {v:Value} (hv:VR w ρ L k v):Rep P w ρ L kt v xs:=by
  obtain ⟨_,hh⟩:=xAl e
  unfold Rep
  rcases hh with ⟨ha,D,hD1,hD2⟩ | ⟨ha,D,hD1,hD2⟩<;>rw [hD1]
  · cases k<;>simp only [mN,ha,cond_true,reduceCtorEq,Bool.true_and] at hk
    rename_i cs
    have:(bif Nat.beq cs.length kn.ks.length then some cs else none)=some xs:=hk
    cases hb:Nat.beq cs.length kn.ks.length with
    | false=>rw [hb] at this; cases this
    | true =>
      rw [hb] at this; cases this
      simp only [VR] at hv
      cases D<;>first | (exact hD2.elim) | exact hv
  · have hx:xs=[k]:=by
      cases k<;>simp only [mN,ha,cond_false,Bool.false_and,Option.some.injEq,reduceCtorEq] at hk<;>exact hk.symm
    subst hx
    cases D<;>first | (exact hD2.elim) | exact ⟨k,rfl,hv⟩
theorem run_checkKey:∀ (d D:Nat) (t:TypeId) (n:List CK) (em:Bool),mZ P d t=some n→d≤D→∀ (x:Value) (xs:List AV),Rep P w ρ L t x xs→xs.length=n.length→(Instr.checkKey em D t x).run P w=.ok () w:=by
  intro d
  induction d with
  | zero=>intro D t n em e; simp [mZ] at e
  | succ d ih =>
    intro D t n em e hD x xs hx hxl
    obtain ⟨D,rfl⟩:∃ D',D=D'+1:=⟨D - 1,by omega⟩
    rcases mD e with ⟨hu,rfl⟩ | ⟨⟨k,hu⟩,rfl⟩ | ⟨hu,rfl⟩ | ⟨fs,hu,hs,hf⟩
    · simp only [Instr.checkKey,Sem.run_bind,run_underlying hu w,Result.andThen_ok]; rfl
    · simp only [Instr.checkKey,Sem.run_bind,run_underlying hu w,Result.andThen_ok]; rfl
    · simp only [Instr.checkKey,Sem.run_bind,run_underlying hu w,Result.andThen_ok]; rfl
    · unfold Rep at hx
      rw [hu] at hx
      obtain ⟨ax,rfl,hx⟩:=hx
      simp only [Instr.checkKey,Sem.run_bind,run_underlying hu w,Result.andThen_ok]
      rw [← Array.forIn_toList]
      have key : ∀ (l:List Field) (ks:List CK),l.foldlM (xAh P d) ks=some n →
          ((forIn l PUnit.unit fun f r=>do
            if f.name ≠ "_" then do
              let v ← part f.type ax f.offset
              Instr.checkKey em D f.type v
              pure (ForInStep.yield PUnit.unit)
            else pure (ForInStep.yield PUnit.unit):Sem PUnit)).run P w=.ok PUnit.unit w:=by
        intro l
        induction l with
        | nil=>intro ks _; simp
        | cons f l ihl =>
          intro ks h1
          simp only [List.foldlM_cons,Option.bind_eq_bind,Option.bind_eq_some_iff] at h1
          obtain ⟨q,h4,h5⟩:=h1
          obtain ⟨g1,g2,k,g3,g4,rfl⟩:=xA7 h4
          obtain ⟨k',hk'⟩:=dB h5
          have hlx:f.offset+k.length≤xs.length:=by rw [g2,hxl,hk']; simp only [List.length_append]; omega
          obtain ⟨x1,p1,p2⟩:=xAq (P:=P) g3 g4 hx hlx
          have l1:((xs.drop f.offset).take k.length).length=k.length:=by simp; omega
          simp only [List.forIn_cons,if_pos g1,Sem.run_bind,p1,Result.andThen_ok,ih D f.type k em g3 (by omega) x1 _ p2 l1,Sem.run_pure]
          exact ihl _ h5
      have:=key fs.toList [] hf
      simp at this ⊢
      rw [this]; rfl
omit envI in
theorem xB4 {kn:KeyK} {a b:AV} {r:Bool} (e:pB kn a b=some r):∃ xs ys,mN kn a=some xs∧mN kn b=some ys∧wB kn.ks xs ys=some r:=by
  unfold pB at e
  cases ha:mN kn a with
  | none=>rw [ha] at e; cases e
  | some xs =>
    cases hb:mN kn b with
    | none=>rw [ha,hb] at e; cases e
    | some ys=>rw [ha,hb] at e; exact ⟨xs,ys,rfl,rfl,e⟩
omit envI in
theorem kG {kn:KeyK} {k:AV} {xs:List AV} (hk:mN kn k=some xs):(kn.agg=true∧xs.length=kn.ks.length∧k=.agg xs)∨(kn.agg=false∧xs=[k]):=by
  cases ha:kn.agg with
  | true =>
    left
    cases k<;>simp only [mN,ha,cond_true,reduceCtorEq,Bool.true_and] at hk
    rename_i cs
    cases hb:Nat.beq cs.length kn.ks.length with
    | false=>rw [hb] at hk; cases hk
    | true=>rw [hb] at hk; cases hk; exact ⟨rfl,Nat.eq_of_beq_eq_true hb,rfl⟩
  | false =>
    right
    refine ⟨rfl,?_⟩
    cases k<;>simp only [mN,ha,cond_false,Bool.false_and,Option.some.injEq,reduceCtorEq] at hk<;>exact hk.symm
theorem xV2 {kt:TypeId} {kn:KeyK} (e:xP1 P kt=some kn) {a b:AV} {r:Bool} (hr:pB kn a b=some r) {u v:Value} (hu:VR w ρ L a u) (hv:VR w ρ L b v) :
    ∃ D,P.underlying kt=some D∧((kn.agg=false∧Instr.sameNow D u v=some r)∨(kn.agg=true∧Instr.sameNow D u v=none∧(Op.equal kt u v).run P w=.ok r w)):=by
  obtain ⟨hf,hh⟩:=xAl e
  obtain ⟨xs,ys,hx,hy,hxy⟩:=xB4 hr
  have rx:=dQ e hx hu
  have ry:=dQ e hy hv
  rcases hh with ⟨ha,D,hD1,hD2⟩ | ⟨ha,D,hD1,hD2⟩
  · refine ⟨D,hD1,.inr ⟨ha,?_,?_⟩⟩
    · cases D<;>first | (exact hD2.elim) | rfl
    · rcases kG hx with ⟨_,l1,_⟩ | ⟨l1,_⟩
      · rcases kG hy with ⟨_,l2,_⟩ | ⟨l2,_⟩
        · exact bU 10 10000 kt kn.ks hf (by omega) u v xs ys r rx ry l1 l2 hxy
        · rw [ha] at l2; cases l2
      · rw [ha] at l1; cases l1
  · refine ⟨D,hD1,.inl ⟨ha,?_⟩⟩
    rcases kG hx with ⟨l1,_⟩ | ⟨_,rfl⟩
    · rw [ha] at l1; cases l1
    rcases kG hy with ⟨l2,_⟩ | ⟨_,rfl⟩
    · rw [ha] at l2; cases l2
    rcases mD hf with ⟨hu',hk⟩ | ⟨⟨k,hu'⟩,hk⟩ | ⟨hu',hk⟩ | ⟨fs,hu',_⟩
    · rw [hD1] at hu'; cases hu'
      rw [hk] at hxy
      cases a<;>cases b<;>simp only [wB,reduceCtorEq] at hxy
      rw [gA hu,gA hv]
      rename_i p q
      simp only [Instr.sameNow]
      cases hp:p==q with
      | false=>rw [hp] at hxy; cases hxy; rfl
      | true=>rw [hp] at hxy; cases hxy; rfl
    · rw [hD1] at hu'; cases hu'
      rw [hk] at hxy
      cases a<;>cases b<;>simp only [wB,reduceCtorEq] at hxy
      · rw [int_of hu,int_of hv]
        rename_i j p j' q
        cases hj:eqK j j' with
        | false=>rw [hj] at hxy; cases hxy
        | true =>
          rw [hj] at hxy
          rw [wP] at hj; subst hj
          simp only [cond_true,kE] at hxy
          simp only [Instr.sameNow,if_true]
          cases hp:p==q with
          | false=>rw [hp] at hxy; cases hxy; rfl
          | true=>rw [hp] at hxy; cases hxy; rfl
      · rename_i j p i
        cases hf:vM i j p with
        | false =>
          rw [hf] at hxy
          obtain ⟨rfl,rfl,m,rfl,_,h2⟩:=xCs hxy hv
          rw [int_of hu]
          simp only [Instr.sameNow,if_true,h2]
        | true =>
          rw [hf] at hxy; cases hxy
          obtain ⟨rfl,m,rfl,_,h2,_⟩:=xCu hf hv
          rw [int_of hu]
          simp only [Instr.sameNow,if_true,h2]
      · rename_i i j p
        cases hf:vM i j p with
        | false =>
          rw [hf] at hxy
          obtain ⟨rfl,rfl,m,rfl,h1,_⟩:=xCs hxy hu
          rw [int_of hv]
          simp only [Instr.sameNow,if_true,h1]
        | true =>
          rw [hf] at hxy; cases hxy
          obtain ⟨rfl,m,rfl,h1,_,_⟩:=xCu hf hu
          rw [int_of hv]
          simp only [Instr.sameNow,if_true,h1]
      · rename_i i i'
        cases hf:mV i&&Nat.beq i i' with
        | false =>
          rw [hf] at hxy
          simp only [cond_false] at hxy
          cases ha:vD i i' with
          | false=>rw [ha] at hxy; cases hxy
          | true =>
            rw [ha] at hxy
            obtain ⟨m,n,rfl,rfl,hd⟩:=xR4 ha hu hv
            simp only [Instr.sameNow,if_true,hd]
            cases ho:eqI (yD i) (yD i') with
            | false=>rw [ho] at hxy; cases hxy; rfl
            | true=>rw [ho] at hxy; cases hxy; rfl
        | true =>
          rw [hf] at hxy; cases hxy
          rw [Bool.and_eq_true] at hf
          have e:=Nat.eq_of_beq_eq_true hf.2
          subst e
          simp only [VR] at hu hv
          obtain ⟨m,_,rfl,rfl⟩:=Env.big hf.1 hu hv
          simp only [Instr.sameNow,if_true,beq_self_eq_true]
    · rw [hD1] at hu'; cases hu'
      rw [hk] at hxy
      cases a<;>cases b<;>simp only [wB,reduceCtorEq] at hxy
      · simp only [VR] at hu hv
        obtain ⟨p,rfl,rfl⟩:=hu
        obtain ⟨q,rfl,rfl⟩:=hv
        rw [qJ] at hxy
        simp only [Instr.sameNow,beq_toListBytes]
        cases hp:p.toList==q.toList with
        | false=>rw [hp] at hxy; cases hxy; rfl
        | true=>rw [hp] at hxy; cases hxy; rfl
      · rename_i p i
        cases hf:dL i p with
        | false=>rw [hf] at hxy; cases hxy
        | true =>
          rw [hf] at hxy; cases hxy
          obtain ⟨y,rfl,h1,_⟩:=xCz hf hv
          simp only [VR] at hu
          obtain ⟨x,rfl,rfl⟩:=hu
          rw [qJ] at h1
          simp only [Instr.sameNow,beq_toListBytes,h1]
      · rename_i i p
        cases hf:dL i p with
        | false=>rw [hf] at hxy; cases hxy
        | true =>
          rw [hf] at hxy; cases hxy
          obtain ⟨x,rfl,_,h1⟩:=xCz hf hu
          simp only [VR] at hv
          obtain ⟨y,rfl,rfl⟩:=hv
          rw [qJ] at h1
          simp only [Instr.sameNow,beq_toListBytes,h1]
      · rename_i i j
        cases hf:nX i&&Nat.beq i j with
        | false=>rw [hf] at hxy; cases hxy
        | true =>
          rw [hf] at hxy; cases hxy
          rw [Bool.and_eq_true] at hf
          have e:=Nat.eq_of_beq_eq_true hf.2
          subst e
          simp only [VR] at hu hv
          obtain ⟨x,y,rfl,rfl,h1,_⟩:=Env.fre hf.1 hu hv
          have h2:eqS (xP x) (xP y)=true:=qC.2 h1
          rw [qJ] at h2
          simp only [Instr.sameNow,beq_toListBytes,h2]
    · rw [hD1] at hu'; cases hu'; exact hD2.elim
theorem run_findKey {kt:TypeId} {kn:KeyK} (e:xP1 P kt=some kn) {k:AV} {kv:Value} (hk:VR w ρ L k kv) {es:List (AV×AV)} {ms:List MapEntry}
    (h1:VRs w ρ L (es.map (·.1)) (ms.map (·.key))) (h2:VRs w ρ L (es.map (·.2)) (ms.map (·.val))) {r:Option AV} (hr:bM kn k es=some r) :
    ∃ res,(Instr.findKey kt kv ms).run P w=.ok res w ∧
      (r=none∧res=none∧(∀ (i:Nat) (p:AV×AV),es[i]?=some p→pB kn k p.1=some false) ∨
       ∃ v i val,r=some v∧res=some (i,val)∧VR w ρ L v val∧i<ms.length∧(∃ p:AV×AV,es[i]?=some p∧pB kn k p.1=some true∧p.2=v)∧(∀ (j:Nat) (p:AV×AV),j<i→es[j]?=some p→pB kn k p.1=some false)):=by
  obtain ⟨hf,hh⟩:=xAl e
  obtain ⟨D,hD⟩:∃ D,P.underlying kt=some D:=by rcases hh with ⟨_,D,hD,_⟩ | ⟨_,D,hD,_⟩<;>exact ⟨D,hD⟩
  have now : ∀ (es:List (AV×AV)) (ms:List MapEntry) (n:Nat) (r:Option AV),VRs w ρ L (es.map (·.1)) (ms.map (·.key))→VRs w ρ L (es.map (·.2)) (ms.map (·.val))→bM kn k es=some r→kn.agg=false →
      ∃ res,Instr.findNow D kv ms n=some res ∧
      (r=none∧res=none∧(∀ (i:Nat) (p:AV×AV),es[i]?=some p→pB kn k p.1=some false) ∨
       ∃ v i val,r=some v∧res=some (n+i,val)∧VR w ρ L v val∧i<ms.length∧(∃ p:AV×AV,es[i]?=some p∧pB kn k p.1=some true∧p.2=v)∧(∀ (j:Nat) (p:AV×AV),j<i→es[j]?=some p→pB kn k p.1=some false)):=by
    intro es
    induction es with
    | nil =>
      intro ms n r h1 _ hr _
      cases ms with
      | nil=>simp [bM] at hr; subst hr; exact ⟨none,rfl,.inl ⟨rfl,rfl,fun i p hp=>by simp at hp⟩⟩
      | cons m ms=>simp [VRs] at h1
    | cons p es ih =>
      intro ms n r h1 h2 hr ha
      obtain ⟨k',v'⟩:=p
      cases ms with
      | nil=>simp [VRs] at h1
      | cons m ms =>
        simp only [List.map_cons,VRs] at h1 h2
        obtain ⟨_,_,e1,h3,h4⟩:=h1
        obtain ⟨_,_,e2,h5,h6⟩:=h2
        cases e1; cases e2
        simp only [bM] at hr
        cases hq:pB kn k k' with
        | none=>rw [hq] at hr; cases hr
        | some b =>
          rw [hq] at hr
          obtain ⟨D',hD',hs⟩:=xV2 e hq hk h3
          cases hD.symm.trans hD'
          rcases hs with ⟨_,hs⟩ | ⟨hs,_⟩
          · cases b with
            | true =>
              simp at hr; subst hr
              refine ⟨some (n,m.val),by simp [Instr.findNow,hs],.inr ⟨v',0,m.val,rfl,rfl,h5,by simp,⟨(k',v'),by simp,hq,rfl⟩,fun j p hj=>by omega⟩⟩
            | false =>
              obtain ⟨res,g1,g2⟩:=ih ms (n+1) r h4 h6 hr ha
              refine ⟨res,by simp [Instr.findNow,hs,g1],?_⟩
              rcases g2 with ⟨g3,g4,g5⟩ | ⟨v,i,val,g3,g4,g5,g6,g7,g8⟩
              · left
                refine ⟨g3,g4,fun i p hp => ?_⟩
                cases i with
                | zero=>simp at hp; subst hp; exact hq
                | succ i=>exact g5 i p (by simpa using hp)
              · right
                refine ⟨v,i+1,val,g3,by rw [g4,show n+1+i=n+(i+1) by omega],g5,by simp; omega,by simpa using g7,fun j p hj hp => ?_⟩
                cases j with
                | zero=>simp at hp; subst hp; exact hq
                | succ j=>exact g8 j p (by omega) (by simpa using hp)
          · rw [ha] at hs; cases hs
  have asking : ∀ (es:List (AV×AV)) (ms:List MapEntry) (n:Nat) (r:Option AV),VRs w ρ L (es.map (·.1)) (ms.map (·.key))→VRs w ρ L (es.map (·.2)) (ms.map (·.val))→bM kn k es=some r→kn.agg=true →
      ∃ res,(Instr.findAsking kt kv ms n).run P w=.ok res w ∧
      (r=none∧res=none∧(∀ (i:Nat) (p:AV×AV),es[i]?=some p→pB kn k p.1=some false) ∨
       ∃ v i val,r=some v∧res=some (n+i,val)∧VR w ρ L v val∧i<ms.length∧(∃ p:AV×AV,es[i]?=some p∧pB kn k p.1=some true∧p.2=v)∧(∀ (j:Nat) (p:AV×AV),j<i→es[j]?=some p→pB kn k p.1=some false)):=by
    intro es
    induction es with
    | nil =>
      intro ms n r h1 _ hr _
      cases ms with
      | nil=>simp [bM] at hr; subst hr; exact ⟨none,by simp [Instr.findAsking],.inl ⟨rfl,rfl,fun i p hp=>by simp at hp⟩⟩
      | cons m ms=>simp [VRs] at h1
    | cons p es ih =>
      intro ms n r h1 h2 hr ha
      obtain ⟨k',v'⟩:=p
      cases ms with
      | nil=>simp [VRs] at h1
      | cons m ms =>
        simp only [List.map_cons,VRs] at h1 h2
        obtain ⟨_,_,e1,h3,h4⟩:=h1
        obtain ⟨_,_,e2,h5,h6⟩:=h2
        cases e1; cases e2
        simp only [bM] at hr
        cases hq:pB kn k k' with
        | none=>rw [hq] at hr; cases hr
        | some b =>
          rw [hq] at hr
          obtain ⟨D',hD',hs⟩:=xV2 e hq hk h3
          rcases hs with ⟨hs,_⟩ | ⟨_,_,hs⟩
          · rw [ha] at hs; cases hs
          · cases b with
            | true =>
              simp at hr; subst hr
              refine ⟨some (n,m.val),by simp [Instr.findAsking,hs],.inr ⟨v',0,m.val,rfl,rfl,h5,by simp,⟨(k',v'),by simp,hq,rfl⟩,fun j p hj=>by omega⟩⟩
            | false =>
              obtain ⟨res,g1,g2⟩:=ih ms (n+1) r h4 h6 hr ha
              refine ⟨res,by simp [Instr.findAsking,hs,g1],?_⟩
              rcases g2 with ⟨g3,g4,g5⟩ | ⟨v,i,val,g3,g4,g5,g6,g7,g8⟩
              · left
                refine ⟨g3,g4,fun i p hp => ?_⟩
                cases i with
                | zero=>simp at hp; subst hp; exact hq
                | succ i=>exact g5 i p (by simpa using hp)
              · right
                refine ⟨v,i+1,val,g3,by rw [g4,show n+1+i=n+(i+1) by omega],g5,by simp; omega,by simpa using g7,fun j p hj hp => ?_⟩
                cases j with
                | zero=>simp at hp; subst hp; exact hq
                | succ j=>exact g8 j p (by omega) (by simpa using hp)
  rcases hh with ⟨ha,D',hD1,hD2⟩ | ⟨ha,D',hD1,hD2⟩
  · cases hD.symm.trans hD1
    cases ms with
    | nil =>
      obtain ⟨res,g1,g2⟩:=asking es [] 0 r h1 h2 hr ha
      refine ⟨none,by simp [Instr.findKey,run_underlying hD w,Instr.findNow],?_⟩
      simp [Instr.findAsking] at g1; subst g1
      simpa using g2
    | cons m ms =>
      obtain ⟨res,g1,g2⟩:=asking es (m::ms) 0 r h1 h2 hr ha
      refine ⟨res,?_,by simpa using g2⟩
      have hn:Instr.findNow D kv (m::ms) 0=none:=by
        simp only [Instr.findNow]
        have:Instr.sameNow D kv m.key=none:=by cases D<;>first | (exact hD2.elim) | rfl
        rw [this]
      simp only [Instr.findKey,Sem.run_bind,run_underlying hD w,Result.andThen_ok,hn]
      exact g1
  · obtain ⟨res,g1,g2⟩:=now es ms 0 r h1 h2 hr ha
    refine ⟨res,?_,by simpa using g2⟩
    simp only [Instr.findKey,Sem.run_bind,run_underlying hD w,Result.andThen_ok,g1]
    rfl
end
end Go.Abs
end
section
namespace Go.Abs
variable [envI:Env]
section
variable {P:Program} {X:Ctx} {ρ:Nm} {h:H} {w:World} {L:Nat→Prop}
theorem pN {t:TypeId} {z:AV} (e:zeroOf P t=some z):∃ v,(∀ w,(zeroValue t).run P w=.ok v w)∧∀ {w:World} {ρ:Nm} {L:Nat→Prop},VR w ρ L z v:=by
  unfold zeroOf at e
  simp only [Option.bind_eq_bind,Option.bind_eq_some_iff] at e
  obtain ⟨i,h1,v,h2,h3⟩:=e
  refine ⟨v,fun w => ?_,xQi 3 v z h3⟩
  simp [zeroValue,typeInfo,h1,h2]
theorem xVv {t kt et:TypeId} (ht:P.underlying t=some (.map kt et)) {kn:KeyK} (hk:xP1 P kt=some kn) {z:AV} (hz:zeroOf P et=some z) {ok:Bool} (hr:HR P X ρ h w) {m k r:AV} {x y:Value}
    (hx:VR w ρ (Lv ρ h) m x) (hy:VR w ρ (Lv ρ h) k y) (e:xKz h kn z ok m k=some r):∃ v,(Instr.lookup t x y ok).run P w=.ok v w∧VR w ρ (Lv ρ h) r v:=by
  obtain ⟨zv,hz1,hz2⟩:=pN hz
  unfold xKz at e
  cases hko:xBg kn k with
  | false=>rw [hko] at e; cases e
  | true =>
    rw [hko] at e
    simp only [cond_true] at e
    have hck : ∀ em,(Instr.checkKey em 10000 kt y).run P w=.ok () w:=by
      intro em
      unfold xBg at hko
      cases hkk:pB kn k k with
      | none=>rw [hkk] at hko; cases hko
      | some b =>
        obtain ⟨xs,_,h1,_,_⟩:=xB4 hkk
        obtain ⟨hf,hh⟩:=xAl hk
        refine run_checkKey 10 10000 kt kn.ks em hf (by omega) y xs (dQ hk h1 hy) ?_
        rcases kG h1 with ⟨_,l1,_⟩ | ⟨ha,rfl⟩
        · exact l1
        · rcases hh with ⟨ha',_⟩ | ⟨_,D,hD1,hD2⟩
          · rw [ha] at ha'; cases ha'
          · rcases mD hf with ⟨_,hk⟩ | ⟨⟨_,_⟩,hk⟩ | ⟨_,hk⟩ | ⟨fs,hu',_⟩
            · rw [hk]; rfl
            · rw [hk]; rfl
            · rw [hk]; rfl
            · rw [hD1] at hu'; cases hu'; exact hD2.elim
    have run:∀ {mv:Value} {es:Array MapEntry} {res:Option (Nat×Value)},(mv=.map none∧es = #[]∨∃ b clock,mv=.map (some b)∧w.heap[b]?=some (.map es clock))→(Instr.findKey kt y es.toList).run P w=.ok res w →
        (Instr.lookup t mv y ok).run P w=.ok (let (v,o):=match res with | some (_,v)=>(v,true) | none=>(zv,false); if ok then .tuple #[v,.bool o] else v) w:=by
      intro mv es res h1 h2
      rcases h1 with ⟨rfl,rfl⟩ | ⟨b,clock,rfl,hb⟩
      · simp only [Instr.lookup,Sem.run_bind,run_underlying ht w,Result.andThen_ok,Sem.run_pure,hck,h2]
        cases res with
        | none=>simp [hz1]
        | some p=>obtain ⟨_,v⟩:=p; simp
      · have hg:(getObj b).run P w=.ok (.map es clock) w:=by simp [getObj,Sem.run,hb]
        simp only [Instr.lookup,Sem.run_bind,run_underlying ht w,Result.andThen_ok,Sem.run_pure,hg,hck,h2]
        cases res with
        | none=>simp [hz1]
        | some p=>obtain ⟨_,v⟩:=p; simp
    have fin:∀ {res:Option (Nat×Value)} {q:Option AV},(q=none∧res=none∨∃ v i val,q=some v∧res=some (i,val)∧VR w ρ (Lv ρ h) v val) →
        VR w ρ (Lv ρ h) (match q with
          | some v=>bif ok then .tup [v,.bool true] else v
          | none=>bif ok then .tup [z,.bool false] else z) (let (v,o):=match res with | some (_,v)=>(v,true) | none=>(zv,false); if ok then .tuple #[v,.bool o] else v):=by
      intro res q hq
      rcases hq with ⟨rfl,rfl⟩ | ⟨v,i,val,rfl,rfl,hv⟩
      · cases ok
        · exact hz2
        · simp only [VR,cond_true,if_true]
          exact ⟨_,rfl,by simp only [VRs]; exact ⟨zv,_,rfl,hz2,_,_,rfl,by simp only [VR],rfl⟩⟩
      · cases ok
        · exact hv
        · simp only [VR,cond_true,if_true]
          exact ⟨_,rfl,by simp only [VRs]; exact ⟨val,_,rfl,hv,_,_,rfl,by simp only [VR],rfl⟩⟩
    cases m<;>simp only [reduceCtorEq] at e
    case nilm =>
      simp only [VR] at hx; subst hx
      cases hfd:bM kn k [] with
      | none=>rw [hfd] at e; cases e
      | some q =>
        rw [hfd] at e
        simp only [Option.some.injEq] at e; subst e
        obtain ⟨res,g1,g2⟩:=run_findKey hk hy (es:=[]) (ms:=[]) (by simp [VRs]) (by simp [VRs]) hfd
        refine ⟨_,run (mv:=.map none) (es := #[]) (.inl ⟨rfl,rfl⟩) g1,fin ?_⟩
        rcases g2 with ⟨g3,g4,_⟩ | ⟨v,i,val,g3,g4,g5,_⟩
        · exact .inl ⟨g3,g4⟩
        · exact .inr ⟨v,i,val,g3,g4,g5⟩
    case mapv id =>
      simp only [VR] at hx
      obtain ⟨b,hb,rfl⟩:=hx
      cases hg:h.t.get id with
      | none=>rw [hg] at e; cases e
      | some bl =>
        rw [hg] at e
        cases bl<;>simp only [reduceCtorEq] at e
        rename_i es
        obtain ⟨b',o,hb',ho,ms,clock,rfl,h1,h2,_⟩:=hr.live id _ hg
        cases hb.symm.trans hb'
        cases hfd:bM kn k es with
        | none=>rw [hfd] at e; cases e
        | some q =>
          rw [hfd] at e
          simp only [Option.some.injEq] at e; subst e
          obtain ⟨res,g1,g2⟩:=run_findKey hk hy h1 h2 hfd
          refine ⟨_,run (mv:=.map (some b)) (es:=ms) (.inr ⟨b,clock,rfl,ho⟩) g1,fin ?_⟩
          rcases g2 with ⟨g3,g4,_⟩ | ⟨v,i,val,g3,g4,g5,_⟩
          · exact .inl ⟨g3,g4⟩
          · exact .inr ⟨v,i,val,g3,g4,g5⟩
    case rmap ks vs =>
      simp only [VR] at hx
      obtain ⟨b,ms,clock,rfl,_,ho,h1,h2⟩:=hx
      have hlen:ks.length=vs.length:=by
        have e1:=h1.length
        have e2:=h2.length
        simp only [List.length_map] at e1 e2
        omega
      have z1:(ks.zip vs).map (·.1)=ks:=List.map_fst_zip (by omega)
      have z2:(ks.zip vs).map (·.2)=vs:=List.map_snd_zip (by omega)
      rw [← z1] at h1
      rw [← z2] at h2
      cases hfd:bM kn k (ks.zip vs) with
      | none=>rw [hfd] at e; cases e
      | some q =>
        rw [hfd] at e
        simp only [Option.some.injEq] at e; subst e
        obtain ⟨res,g1,g2⟩:=run_findKey hk hy h1 h2 hfd
        refine ⟨_,run (mv:=.map (some b)) (es:=ms) (.inr ⟨b,clock,rfl,ho⟩) g1,fin ?_⟩
        rcases g2 with ⟨g3,g4,_⟩ | ⟨v,i,val,g3,g4,g5,_⟩
        · exact .inl ⟨g3,g4⟩
        · exact .inr ⟨v,i,val,g3,g4,g5⟩
omit envI in
theorem xWz (cells:Array Value) (off:Nat):∀ (vs:List Value) (k:Nat),off+k+vs.length≤cells.size →
    ((vs.zipIdx k).foldl (fun cs (c,j)=>cs.setIfInBounds (off+j) c) cells).toList=cells.toList.take (off+k)++vs++cells.toList.drop (off+k+vs.length):=by
  intro vs
  induction vs generalizing cells with
  | nil=>intro k _; simp
  | cons v vs ih =>
    intro k hle
    simp only [List.zipIdx_cons,List.foldl_cons]
    have:=ih (cells.setIfInBounds (off+k) v) (k+1) (by simp at hle ⊢; omega)
    rw [this]
    simp only [Array.toList_setIfInBounds,List.length_cons]
    have hlt:off+k<cells.toList.length:=by simp at hle ⊢; omega
    have e1:(cells.toList.set (off+k) v).take (off+(k+1))=cells.toList.take (off+k)++[v]:=by
      rw [show off+(k+1)=(off+k)+1 by omega,List.take_succ_eq_append_getElem (by simpa using hlt)]
      congr 1
      · exact List.take_set_of_le (Nat.le_refl _)
      · simp
    have e2:(cells.toList.set (off+k) v).drop (off+(k+1)+vs.length)=cells.toList.drop (off+k+(vs.length+1)):=by
      rw [List.drop_set_of_lt (by omega)]
      congr 1; omega
    rw [e1,e2]
    simp
theorem xMn {place:Nat→Option (Nat×Nat)}:∀ {ps:List (Nat×Nat)} {is:List Nat} {cs cs':List AV} {vs:List AV} {cells:Array Value} {us:List Value},
    is.map place=ps.map some→jO cs ps vs=some cs'→VRs w ρ L cs cells.toList→VRs w ρ L vs us→is.length=us.length →
    ∃ cells',Instr.fill place cells (is.zip us)=some cells'∧VRs w ρ L cs' cells'.toList:=by
  intro ps
  induction ps with
  | nil =>
    intro is cs cs' vs cells us h1 h2 h3 h4 h5
    cases is with
    | cons i is=>simp at h1
    | nil =>
      cases vs with
      | cons v vs=>simp [jO] at h2
      | nil=>simp [jO] at h2; subst h2; exact ⟨cells,by simp [Instr.fill],h3⟩
  | cons p ps ih =>
    obtain ⟨off,sz⟩:=p
    intro is cs cs' vs cells us h1 h2 h3 h4 h5
    cases is with
    | nil=>simp at h1
    | cons i is =>
      simp only [List.map_cons,List.cons.injEq] at h1
      cases vs with
      | nil=>simp [jO] at h2
      | cons v vs =>
        obtain ⟨u,us',rfl,hu,hus⟩:=nE h4
        simp only [jO] at h2
        cases hb:(Nat.beq v.cells.length sz&&Nat.ble (off+sz) cs.length) with
        | false=>rw [hb] at h2; cases h2
        | true =>
          rw [hb] at h2
          simp only [cond_true] at h2
          simp only [Bool.and_eq_true] at hb
          have hsz:=Nat.eq_of_beq_eq_true hb.1
          have hle:=Nat.le_of_ble_eq_true hb.2
          cases hs:setAt cs off v.cells with
          | none=>rw [hs] at h2; cases h2
          | some cs1 =>
            rw [hs] at h2
            have hc:=hu.cells
            have hlen:u.cells.toList.length=v.cells.length:=hc.length
            have hcl:=h3.length
            obtain ⟨g1,g2,g3⟩:=xD3 hs h3.toP hc
            have hus2:u.cells.size=sz:=by simpa [hsz] using hlen
            have hfit:off+u.cells.size≤cells.size:=by rw [hus2]; simpa using (hcl▸hle:off+sz≤cells.toList.length)
            have hfc:=xWz cells off u.cells.toList 0 (by simpa using hfit)
            have g4:VRs w ρ L cs1 (cells.toList.take off++u.cells.toList++cells.toList.drop (off+u.cells.toList.length)):=by
              have h5:=g1.toS
              rw [List.take_of_length_le] at h5
              · exact h5
              · rw [g2,← hcl]; simp; omega
            obtain ⟨cells',f1,f2⟩:=ih (cells:=(u.cells.zipIdx.foldl (fun cs (c,j)=>cs.setIfInBounds (off+j) c) cells)) h1.2 h2 (by
              have e:(u.cells.zipIdx.foldl (fun cs (c,j)=>cs.setIfInBounds (off+j) c) cells).toList=cells.toList.take off++u.cells.toList++cells.toList.drop (off+u.cells.toList.length):=by
                rw [← Array.foldl_toList,Array.toList_zipIdx]
                simpa using hfc
              rw [e]; exact g4) hus (by simpa using h5)
            refine ⟨cells',?_,f2⟩
            simp only [List.zip_cons_cons,Instr.fill,h1.1]
            rw [if_neg (by simp [hus2]; omega)]
            exact f1
end
end Go.Abs
end
section
namespace Go.Abs
variable [envI:Env]
section
variable {P:Program} {X:Ctx} {ρ:Nm} {h:H} {w:World} {L:Nat→Prop}
theorem xY0 {t:TypeId} {z:List AV} (hz:wM P t=some z) {parts:List (Nat×Nat)} {ps:List (Nat×Operand)} {os:List Opd} (hp:partsOf P t ps=some (parts,os)) {vs:List AV} {us:List Value}
    (hv:VRs w ρ L vs us) (hlen:us.length=ps.length) {r:AV} (e:(jO z parts vs).map AV.agg=some r) :
    ∃ v,(Instr.build t ((ps.map (·.1)).zip us).toArray).run P w=.ok v w∧VR w ρ L r v:=by
  simp only [wM,Option.map_eq_some_iff] at hz
  obtain ⟨za,hz,rfl⟩:=hz
  obtain ⟨zv,hz1,hz2⟩:=pN hz
  simp only [Option.map_eq_some_iff] at e
  obtain ⟨cs',e,rfl⟩:=e
  unfold partsOf at hp
  split at hp
  · cases hp
  · rename_i hk
    simp only [Option.bind_eq_bind,Option.bind_eq_some_iff,Option.pure_def,Option.some.injEq,Prod.mk.injEq] at hp
    obtain ⟨a,h1,b,h2,rfl,rfl⟩:=hp
    have hmap:∀ {l:List (Nat×Operand)} {q:List (Nat×Nat)},l.mapM (fun p=>placeOf P t p.1)=some q→(l.map (·.1)).map (placeOf P t)=q.map some:=by
      intro l
      induction l with
      | nil=>intro q hq; simp at hq; subst hq; rfl
      | cons p l ih =>
        intro q hq
        simp only [List.mapM_cons,Option.bind_eq_bind,Option.bind_eq_some_iff,Option.pure_def,Option.some.injEq] at hq
        obtain ⟨c,g1,q',g2,rfl⟩:=hq
        simp [g1,ih g2]
    have hpl:=hmap h1
    have hzc:VRs w ρ L za.cells zv.cells.toList:=(hz2 (w:=w) (ρ:=ρ) (L:=L)).cells
    have hlen':(ps.map (·.1)).length=us.length:=by simp [hlen]
    unfold xO8 at hk
    cases hu:P.underlying t with
    | none=>rw [hu] at hk; simp at hk
    | some D =>
      rw [hu] at hk
      cases D<;>first | (simp at hk; done) | skip
      case struct fs =>
        have hsz:∀ f∈fs.toList,(sizeOf f.type).run P w=.ok (P.cellsOf f.type) w:=by
          intro f hf
          simp only [Bool.not_eq_false,List.all_eq_true] at hk
          have:=hk f hf
          cases hi:P.info? f.type with
          | none=>rw [hi] at this; cases this
          | some i=>simp [sizeOf,typeInfo,hi,Program.cellsOf]
        have hplaces:(fs.mapM fun f=>(do pure (f.offset,← sizeOf f.type):Sem (Nat×Nat))).run P w=.ok (fs.map fun f=>(f.offset,P.cellsOf f.type)) w:=by
          have key:∀ (l:List Field),(∀ f∈l,(sizeOf f.type).run P w=.ok (P.cellsOf f.type) w)→(l.mapM fun f=>(do pure (f.offset,← sizeOf f.type):Sem (Nat×Nat))).run P w=.ok (l.map fun f=>(f.offset,P.cellsOf f.type)) w:=by
            intro l
            induction l with
            | nil=>intro _; simp
            | cons f l ih =>
              intro hl
              simp only [List.mapM_cons,Sem.run_bind,hl f (List.mem_cons_self ..),Result.andThen_ok,Sem.run_pure,ih (fun g hg=>hl g (List.mem_cons_of_mem _ hg)),List.map_cons]
          have:=key fs.toList hsz
          rw [← Array.toArray_toList (xs:=fs),List.mapM_toArray]
          simp only [Sem.run_map,this,Result.andThen_ok]
          congr 1
          exact Array.ext' (by simp)
        have hplace:∀ i p,placeOf P t i=some p→(fs.map fun f=>(f.offset,P.cellsOf f.type))[i]?=some p:=by
          intro i p hp
          unfold placeOf at hp
          rw [hu] at hp
          simp only [Option.bind_eq_bind,Option.bind_eq_some_iff,Option.pure_def,Option.some.injEq] at hp
          obtain ⟨f,g1,_,_,rfl⟩:=hp
          simp [g1]
        have hpl':(ps.map (·.1)).map ((fs.map fun f=>(f.offset,P.cellsOf f.type))[·]?)=a.map some:=by
          rw [← hpl]
          apply List.map_congr_left
          intro i hi
          have:∃ p,placeOf P t i=some p:=by
            have hm:placeOf P t i∈(ps.map (·.1)).map (placeOf P t):=List.mem_map.2 ⟨i,hi,rfl⟩
            rw [hpl] at hm
            obtain ⟨p,_,hp⟩:=List.mem_map.1 hm
            exact ⟨p,hp.symm⟩
          obtain ⟨p,hp⟩:=this
          rw [hp]; exact hplace i p hp
        obtain ⟨cells',f1,f2⟩:=xMn hpl' e hzc hv hlen'
        refine ⟨.agg cells',?_,by simp only [VR]; exact ⟨_,rfl,f2⟩⟩
        simp only [Instr.build,Sem.run_bind,hz1,Result.andThen_ok,run_underlying hu w,hplaces,f1,Sem.run_pure]
      case array n el =>
        have hsz:(sizeOf el).run P w=.ok (P.cellsOf el) w:=by
          cases hi:P.info? el with
          | none =>
            have hk':¬ (P.info? el).isSome=false:=hk
            rw [hi] at hk'; simp at hk'
          | some i=>simp [sizeOf,typeInfo,hi,Program.cellsOf]
        have hpl':(ps.map (·.1)).map (fun i=>some (i*P.cellsOf el,P.cellsOf el))=a.map some:=by
          rw [← hpl]
          apply List.map_congr_left
          intro i hi
          have:∃ p,placeOf P t i=some p:=by
            have hm:placeOf P t i∈(ps.map (·.1)).map (placeOf P t):=List.mem_map.2 ⟨i,hi,rfl⟩
            rw [hpl] at hm
            obtain ⟨p,_,hp⟩:=List.mem_map.1 hm
            exact ⟨p,hp.symm⟩
          obtain ⟨p,hp⟩:=this
          rw [hp]
          unfold placeOf at hp
          rw [hu] at hp
          simp only [Option.bind_eq_bind,Option.bind_eq_some_iff,Option.pure_def,Option.some.injEq] at hp
          obtain ⟨_,_,rfl⟩:=hp
          rfl
        obtain ⟨cells',f1,f2⟩:=xMn hpl' e hzc hv hlen'
        refine ⟨.agg cells',?_,by simp only [VR]; exact ⟨_,rfl,f2⟩⟩
        simp only [Instr.build,Sem.run_bind,hz1,Result.andThen_ok,run_underlying hu w,hsz,f1,Sem.run_pure]
omit envI in
theorem xTi (acc:ByteArray) (n:Int) (h0:0≤n) (h1:n<256):xP (acc.push (UInt8.ofNat n.toNat))=xP acc++[n.toNat]:=by
  have:(UInt8.ofNat n.toNat).toNat=n.toNat:=by rw [UInt8.toNat_ofNat']; omega
  unfold xP
  rw [ByteArray.data_push,Array.toList_push,List.map_append,List.map_cons,List.map_nil,this]
theorem xWt {f:Value→ByteArray→Sem (ForInStep ByteArray)} (hf:∀ n s,f (.int .u8 n) s=pure (ForInStep.yield (s.push (UInt8.ofNat n.toNat)))):∀ {l:List AV} {s:List Nat} {vs:List Value},vH.go l=some s→VRs w ρ L l vs→∀ (acc:ByteArray),
    ∃ z,((forIn vs acc f).run P w)=.ok z w∧xP z=xP acc++s:=by
  intro l
  induction l with
  | nil =>
    intro s vs e hv acc
    simp [vH.go] at e; subst e
    have:=xYn hv; subst this
    exact ⟨acc,by simp,by simp⟩
  | cons a l ih =>
    intro s vs e hv acc
    obtain ⟨v,vs',rfl,h1,h2⟩:=nE hv
    cases a<;>(try (simp only [vH.go,reduceCtorEq] at e; done))
    rename_i k n
    cases k<;>simp only [vH.go,reduceCtorEq] at e
    cases hb:(leI 0 n&&ltI n 256) with
    | false=>rw [hb] at e; cases e
    | true =>
      rw [hb] at e
      simp only [cond_true,Option.map_eq_some_iff] at e
      obtain ⟨s',e1,rfl⟩:=e
      simp only [Bool.and_eq_true] at hb
      have g1:=pC hb.1
      have g2:=gQ hb.2
      rw [int_of h1]
      obtain ⟨z,h3,h4⟩:=ih e1 h2 (acc.push (UInt8.ofNat n.toNat))
      refine ⟨z,?_,?_⟩
      · rw [List.forIn_cons,hf]
        simp only [Sem.run_bind,Sem.run_pure,Result.andThen_ok]
        exact h3
      · rw [h4,xTi acc n g1 g2]; simp
theorem xKk {src dst el:TypeId} (hs:P.underlying src=some (.slice el)) (hd:P.underlying dst=some .string) (he:P.underlying el=some (.int .u8)) (hr:HR P X ρ h w) {a r:AV} {x:Value} (hx:VR w ρ (Lv ρ h) a x)
    (e:(vH h .ofBytes a).map (·.1)=some r):∃ v,(convert src dst x).run P w=.ok v w∧VR w ρ (Lv ρ h) r v:=by
  have run:∀ {ad:Option Addr} {len c:Nat},(convert src dst (.slice ad len c)).run P w=(Conv.bytesToString (.slice ad len c)).run P w:=by
    intro ad len c
    simp only [convert,Sem.run_bind,run_underlying hs w,run_underlying hd w,run_underlying he w,Result.andThen_ok]
  have cells:∀ {b off len c:Nat} {cc:Array Value} {el':TypeId} {fz:Nat×Nat} {l:List AV} {s:List Nat},w.heap[b]?=some (.cells cc el' fz)→off+len≤cc.toList.length→VRs w ρ (Lv ρ h) l ((cc.toList.drop off).take len)→vH.go l=some s →
      ∃ v,(convert src dst (.slice (some ⟨b,off,none⟩) len c)).run P w=.ok v w∧VR w ρ (Lv ρ h) (.str s) v:=by
    intro b off len c cc el' fz l s h1 h2 h3 h4
    have g:=fun f hf=>xWt (P:=P) (f:=f) hf h4 h3 ByteArray.empty
    rw [run]
    simp only [Conv.bytesToString,Sem.run_bind,jR h1 h2,Result.andThen_ok]
    rw [← Array.forIn_toList]
    rw [show ((cc.toList.drop off).take len).toArray.toList=(cc.toList.drop off).take len from rfl]
    generalize hF:(fun (c:Value) (s:ByteArray)=>(match c with
      | .int .u8 n=>pure (ForInStep.yield (s.push (UInt8.ofNat n.toNat)))
      | _=>do
        (stuck "bytesToString: byte expected" : Sem PUnit)
        pure (ForInStep.yield s):Sem (ForInStep ByteArray)))=F
    obtain ⟨z,g1,g2⟩:=g F (fun n s=>by subst hF; rfl)
    refine ⟨.string z,?_,by simp only [VR]; exact ⟨z,rfl,by simpa [xP] using g2⟩⟩
    rw [g1]; rfl
  simp only [Option.map_eq_some_iff] at e
  obtain ⟨⟨r',h'⟩,e,rfl⟩:=e
  cases a<;>simp only [vH,reduceCtorEq] at e
  case nils =>
    simp only [Option.some.injEq,Prod.mk.injEq] at e
    obtain ⟨rfl,rfl⟩:=e
    simp only [VR] at hx; subst hx
    refine ⟨.string .empty,?_,by simp only [VR]; exact ⟨_,rfl,rfl⟩⟩
    rw [run]; simp [Conv.bytesToString]
  case slc id off len sz cap =>
    cases hb:Nat.beq sz 1 with
    | false=>rw [hb] at e; cases e
    | true =>
      rw [hb] at e
      simp only [cond_true] at e
      simp only [VR] at hx
      obtain ⟨b,c,hb0,rfl,_,_⟩:=hx
      cases hc:h.cellsAt id with
      | none=>rw [hc] at e; cases e
      | some cs =>
        rw [hc] at e
        simp only at e
        obtain ⟨cc,el',fz,h1,h2⟩:=hr.cellsAt hc hb0
        cases ht:takeD cs off len with
        | none=>rw [ht] at e; cases e
        | some l =>
          rw [ht] at e
          simp only at e
          obtain ⟨g1,g2,g3⟩:=bA ht h2
          cases hg:vH.go l with
          | none=>rw [hg] at e; cases e
          | some s =>
            rw [hg] at e
            simp only [Option.some.injEq,Prod.mk.injEq] at e
            obtain ⟨rfl,rfl⟩:=e
            rcases g2 with g2 | g2
            · subst g2
              have:l=[]:=List.eq_nil_of_length_eq_zero g1
              subst this
              simp [vH.go] at hg; subst hg
              refine ⟨.string .empty,?_,by simp only [VR]; exact ⟨_,rfl,rfl⟩⟩
              rw [run]; simp [Conv.bytesToString,loadCells,loadCellsFrom]
            · exact cells h1 g2 g3 hg
  case rslc len cs =>
    simp only [VR] at hx
    obtain ⟨ad,c,rfl,_,h3⟩:=hx
    cases ht:takeD cs 0 len with
    | none=>rw [ht] at e; cases e
    | some l =>
      rw [ht] at e
      simp only at e
      cases hg:vH.go l with
      | none=>rw [hg] at e; cases e
      | some s =>
        rw [hg] at e
        simp only [Option.some.injEq,Prod.mk.injEq] at e
        obtain ⟨rfl,rfl⟩:=e
        have empty:len=0→∃ v,(convert src dst (.slice ad len c)).run P w=.ok v w∧VR w ρ (Lv ρ h) (.str s) v:=by
          intro h0; subst h0
          have:l=[]:=by
            rcases xBd ht with ⟨rfl,hl,_⟩ | ⟨rfl,_⟩
            · simp
            · rfl
          subst this
          simp [vH.go] at hg; subst hg
          refine ⟨.string .empty,?_,by simp only [VR]; exact ⟨_,rfl,rfl⟩⟩
          rw [run]
          cases ad<;>simp [Conv.bytesToString,loadCells,loadCellsFrom]
        rcases h3 with ⟨rfl,_⟩ | ⟨b,off,cc,el',fz,rfl,k1,k2,k3⟩
        · rcases xBd ht with ⟨_,hl,hle⟩ | ⟨_,h0⟩
          · simp at hle; exact empty hle
          · exact empty h0
        · obtain ⟨g1,g2,g3⟩:=bA ht k3
          rcases g2 with g2 | g2
          · exact empty g2
          · by_cases h0:len=0
            · exact empty h0
            · exact cells k2 (by simp at g2 ⊢; omega) (by simpa using g3) hg
end
end Go.Abs
end
section
namespace Go.Abs
variable [envI:Env]
section
variable {P:Program} {X:Ctx} {ρ:Nm} {h:H} {w:World} {L:Nat→Prop} {fr:Tr AV} {a:Act}
omit envI in
theorem ev0 {vs:List AV} (e:xE X fr []=some vs):vs=[]:=by simpa [xE] using e.symm
omit envI in
theorem evc {o:Opd} {os:List Opd} {vs:List AV} (e:xE X fr (o::os)=some vs):∃ v vs',vs=v::vs'∧xZ X fr o=some v∧xE X fr os=some vs':=by
  simp only [xE] at e
  cases h1:xZ X fr o with
  | none=>rw [h1] at e; cases e
  | some v =>
    rw [h1] at e
    cases h2:xE X fr os with
    | none=>rw [h2] at e; cases e
    | some vs'=>rw [h2] at e; cases e; exact ⟨v,vs',rfl,rfl,rfl⟩
omit envI in
theorem ev1 {o:Opd} {vs:List AV} (e:xE X fr [o]=some vs):∃ v,vs=[v]∧xZ X fr o=some v:=by
  obtain ⟨v,vs',rfl,h1,h2⟩:=evc e
  rw [ev0 h2]; exact ⟨v,rfl,h1⟩
omit envI in
theorem ev2 {o o':Opd} {vs:List AV} (e:xE X fr [o,o']=some vs):∃ v v',vs=[v,v']∧xZ X fr o=some v∧xZ X fr o'=some v':=by
  obtain ⟨v,vs',rfl,h1,h2⟩:=evc e
  obtain ⟨v',rfl,h3⟩:=ev1 h2
  exact ⟨v,v',rfl,h1,h3⟩
omit envI in
theorem ev3 {o o' o'':Opd} {vs:List AV} (e:xE X fr [o,o',o'']=some vs):∃ v v' v'',vs=[v,v',v'']∧xZ X fr o=some v∧xZ X fr o'=some v'∧xZ X fr o''=some v'':=by
  obtain ⟨v,vs',rfl,h1,h2⟩:=evc e
  obtain ⟨v',v'',rfl,h3,h4⟩:=ev2 h2
  exact ⟨v,v',v'',rfl,h1,h3,h4⟩
omit envI in
theorem wX {s:Sem Value} {v:Value} {w':World} (e:s.run P w=.ok v w'):(do pure (Next.value (← s)):Sem Next).run P w=.ok (.value v) w':=by
  rw [Sem.run_bind,e]; rfl
theorem zJ2 {x y r:AV} {u v:Value} (hu:VR w ρ L x u) (hv:VR w ρ L y v) (e:xJz x y=some r):∃ z,(Builtin.min2 u v).run P w=.ok z w∧VR w ρ L r z:=by
  cases x<;>cases y<;>simp only [xJz,reduceCtorEq,Option.some.injEq] at e
  · subst e
    rw [int_of hu,int_of hv]
    rename_i k m k' n
    refine wD ?_
    simp only [Builtin.min2,Sem.run_pure,kH]
    by_cases hh:n<m<;>simp [hh]
  · subst e
    simp only [VR] at hu hv
    obtain ⟨p,rfl,rfl⟩:=hu
    obtain ⟨q,rfl,rfl⟩:=hv
    refine ⟨.string (if (Op.bytesLess p.toList q.toList||p.toList==q.toList)=true then p else q),?_,?_⟩
    · simp only [Builtin.min2,Op.stringOp,Sem.run_bind,Sem.run_pure,Result.andThen_ok,asBool]
    · simp only [VR,wE,qJ]
      cases hb:(Op.bytesLess p.toList q.toList||p.toList==q.toList)
      · exact ⟨q,by simp,by simp⟩
      · exact ⟨p,by simp,by simp⟩
  · rename_i i j
    cases ha:vD i j with
    | false =>
      rw [ha] at e
      simp only [cond_false] at e
      cases hb:wQ i&&wQ j with
      | false=>rw [hb] at e; cases e
      | true =>
        rw [hb] at e; cases e
        rw [Bool.and_eq_true] at hb
        simp only [VR] at hu hv ⊢
        obtain ⟨m,rfl,_,a1,a2⟩:=bF hb.1 hu
        obtain ⟨n,rfl,_,b1,b2⟩:=bF hb.2 hv
        have hi:=xAo i
        have hj:=xAo j
        refine ⟨_,by simp only [Builtin.min2,Sem.run_pure]; rfl,Env.bnd.2 ⟨_,rfl,?_,?_⟩⟩
        · split<;>omega
        · split<;>omega
    | true =>
      rw [ha] at e
      simp only [cond_true,Option.some.injEq] at e
      have hu'  := hu
      have hv':=hv
      simp only [VR] at hu hv
      obtain ⟨m,n,rfl,rfl,hd⟩:=xFx ha hu hv
      have h0:ltI (yD j) (yD i)=decide (n<m):=by rw [kH]; apply decide_eq_decide.2; omega
      by_cases hh:n<m
      · rw [h0,decide_eq_true hh,cond_true] at e
        subst e
        exact ⟨_,by simp only [Builtin.min2,Sem.run_pure]; rfl,by simpa [hh] using hv'⟩
      · rw [h0,decide_eq_false hh,cond_false] at e
        subst e
        exact ⟨_,by simp only [Builtin.min2,Sem.run_pure]; rfl,by simpa [hh] using hu'⟩
theorem zIy {x y r:AV} {u v:Value} (hu:VR w ρ L x u) (hv:VR w ρ L y v) (e:zAb x y=some r):∃ z,(Builtin.max2 u v).run P w=.ok z w∧VR w ρ L r z:=by
  cases x<;>cases y<;>simp only [zAb,reduceCtorEq,Option.some.injEq] at e
  · subst e
    rw [int_of hu,int_of hv]
    rename_i k m k' n
    refine wD ?_
    simp only [Builtin.max2,Sem.run_pure,kH]
    by_cases hh:n>m
    · have hh':m<n:=hh
      simp [hh']
    · have hh':¬ m<n:=hh
      simp [hh']
  · subst e
    simp only [VR] at hu hv
    obtain ⟨p,rfl,rfl⟩:=hu
    obtain ⟨q,rfl,rfl⟩:=hv
    refine ⟨.string (if (!(Op.bytesLess p.toList q.toList))=true then p else q),?_,?_⟩
    · simp only [Builtin.max2,Op.stringOp,Sem.run_bind,Sem.run_pure,Result.andThen_ok,asBool]
    · simp only [VR,wE]
      cases hb:Op.bytesLess p.toList q.toList
      · exact ⟨p,by simp,by simp⟩
      · exact ⟨q,by simp,by simp⟩
  · rename_i i j
    cases ha:vD i j with
    | false =>
      rw [ha] at e
      simp only [cond_false] at e
      cases hb:wQ i&&wQ j with
      | false=>rw [hb] at e; cases e
      | true =>
        rw [hb] at e; cases e
        rw [Bool.and_eq_true] at hb
        simp only [VR] at hu hv ⊢
        obtain ⟨m,rfl,_,a1,a2⟩:=bF hb.1 hu
        obtain ⟨n,rfl,_,b1,b2⟩:=bF hb.2 hv
        have hi:=xAo i
        have hj:=xAo j
        refine ⟨_,by simp only [Builtin.max2,Sem.run_pure]; rfl,Env.bnd.2 ⟨_,rfl,?_,?_⟩⟩
        · split<;>omega
        · split<;>omega
    | true =>
      rw [ha] at e
      simp only [cond_true,Option.some.injEq] at e
      have hu'  := hu
      have hv':=hv
      simp only [VR] at hu hv
      obtain ⟨m,n,rfl,rfl,hd⟩:=xFx ha hu hv
      have h0:ltI (yD i) (yD j)=decide (m<n):=by rw [kH]; apply decide_eq_decide.2; omega
      by_cases hh:m<n
      · rw [h0,decide_eq_true hh,cond_true] at e
        subst e
        exact ⟨_,by simp only [Builtin.max2,Sem.run_pure]; rfl,by simpa [hh] using hv'⟩
      · rw [h0,decide_eq_false hh,cond_false] at e
        subst e
        exact ⟨_,by simp only [Builtin.max2,Sem.run_pure]; rfl,by simpa [hh] using hu'⟩
theorem xMo {f:AV→AV→Option AV} {g:Value→Value→Sem Value} (hfg:∀ {x y r:AV} {u v:Value},VR w ρ L x u→VR w ρ L y v→f x y=some r→∃ z,(g u v).run P w=.ok z w∧VR w ρ L r z) :
    ∀ {xs:List AV} {us:List Value} {x:AV} {u:Value} {r:AV},VR w ρ L x u→VRs w ρ L xs us→xE1 f x xs=some r→∃ z,(us.foldlM g u).run P w=.ok z w∧VR w ρ L r z
  | [],us,x,u,r,hx,hs,e=>by
    have:=xYn hs; subst this
    simp [xE1] at e; subst e
    exact ⟨u,by simp,hx⟩
  | y :: ys,us,x,u,r,hx,hs,e=>by
    obtain ⟨v,vs,rfl,h1,h2⟩:=nE hs
    simp only [xE1] at e
    cases hf:f x y with
    | none=>rw [hf] at e; cases e
    | some z =>
      rw [hf] at e
      obtain ⟨z',g1,g2⟩:=hfg hx h1 hf
      obtain ⟨z'',g3,g4⟩:=xMo hfg g2 h2 e
      exact ⟨z'',by simp [List.foldlM_cons,g1,g3],g4⟩
theorem xSr {argTypes:Array TypeId} {ty t el:TypeId} (h0:argTypes[0]?=some t) (ht:P.underlying t=some (.slice el)) {x r:AV} {u:Value} (hu:VR w ρ L x u) (e:pD h .slc x=some r) :
    ∃ v,(Builtin.len_ argTypes ty #[u]).run P w=.ok v w∧VR w ρ L r v:=by
  have run:∀ ad n c,(Builtin.len_ argTypes ty #[.slice ad n c]).run P w=.ok (.int .i64 n) w:=by
    intro ad n c
    simp [Builtin.len_,h0,run_underlying ht w,goInt]
  cases x<;>simp only [pD,reduceCtorEq,Option.some.injEq] at e<;>subst e<;>simp only [VR] at hu
  · subst hu; exact wD (run _ _ _)
  · obtain ⟨_,_,_,rfl,_⟩:=hu; exact wD (run _ _ _)
  · obtain ⟨_,_,rfl,_⟩:=hu; exact wD (run _ _ _)
  · obtain ⟨_,rfl⟩:=hu; exact wD (run _ _ _)
theorem xSs {argTypes:Array TypeId} {ty t:TypeId} (h0:argTypes[0]?=some t) (ht:P.underlying t=some .string) {x r:AV} {u:Value} (hu:VR w ρ L x u) (e:pD h .str x=some r) :
    ∃ v,(Builtin.len_ argTypes ty #[u]).run P w=.ok v w∧VR w ρ L r v:=by
  cases x<;>simp only [pD,reduceCtorEq,Option.some.injEq] at e
  subst e
  simp only [VR] at hu
  obtain ⟨s,rfl,rfl⟩:=hu
  rw [gB]
  exact wD (by simp [Builtin.len_,h0,run_underlying ht w,goInt])
theorem xSq {argTypes:Array TypeId} {ty t kt el:TypeId} (h0:argTypes[0]?=some t) (ht:P.underlying t=some (.map kt el)) (hr:HR P X ρ h w) {x r:AV} {u:Value} (hu:VR w ρ (Lv ρ h) x u) (e:pD h .map x=some r) :
    ∃ v,(Builtin.len_ argTypes ty #[u]).run P w=.ok v w∧VR w ρ (Lv ρ h) r v:=by
  cases x<;>simp only [pD,reduceCtorEq] at e
  · cases e
    simp only [VR] at hu; subst hu
    exact wD (by simp [Builtin.len_,h0,run_underlying ht w,goInt])
  · rename_i id
    simp only [VR] at hu
    obtain ⟨b,hb,rfl⟩:=hu
    cases hg:h.t.get id with
    | none=>rw [hg] at e; cases e
    | some bl =>
      rw [hg] at e
      cases bl<;>simp only [reduceCtorEq,Option.some.injEq] at e
      subst e
      obtain ⟨b',o,hb',ho,ms,clock,rfl,h1,h2,_⟩:=hr.live id _ hg
      cases hb.symm.trans hb'
      have hl:=h1.length
      simp only [List.length_map,Array.length_toList] at hl
      rw [← hl]
      exact wD (by simp [Builtin.len_,h0,run_underlying ht w,goInt,getObj,Sem.run,ho])
  · rename_i ks vs
    cases e
    simp only [VR] at hu
    obtain ⟨b,ms,clock,rfl,_,ho,h1,_⟩:=hu
    have hl:=h1.length
    simp only [List.length_map,Array.length_toList] at hl
    rw [← hl]
    exact wD (by simp [Builtin.len_,h0,run_underlying ht w,goInt,getObj,Sem.run,ho])
theorem xNy {argTypes:Array TypeId} {ty t:TypeId} {n:Nat} (h0:argTypes[0]?=some t) (ht:(∃ el,P.underlying t=some (.array n el))∨(∃ p el,P.underlying t=some (.pointer p)∧P.underlying p=some (.array n el)))
    {x r:AV} {u:Value} (e:pD h (.fixed n) x=some r):∃ v,(Builtin.len_ argTypes ty #[u]).run P w=.ok v w∧VR w ρ L r v:=by
  simp only [pD,Option.some.injEq] at e; subst e
  rcases ht with ⟨el,ht⟩ | ⟨p,el,ht,hp⟩
  · exact wD (by simp [Builtin.len_,h0,run_underlying ht w,goInt])
  · exact wD (by simp [Builtin.len_,h0,run_underlying ht w,run_underlying hp w,goInt])
theorem zS3 {argTypes:Array TypeId} {ty t:TypeId} {fixed:Option Nat} (h0:argTypes[0]?=some t) (ht:(∃ n el,P.underlying t=some (.array n el)∧fixed=some n)∨(∃ el,P.underlying t=some (.slice el)∧fixed=none))
    {x r:AV} {u:Value} (hu:VR w ρ L x u) (e:xR7 fixed x=some r):∃ v,(Builtin.cap_ argTypes ty #[u]).run P w=.ok v w∧VR w ρ L r v:=by
  rcases ht with ⟨n,el,ht,rfl⟩ | ⟨el,ht,rfl⟩
  · simp only [xR7,Option.some.injEq] at e; subst e
    exact wD (by simp [Builtin.cap_,h0,run_underlying ht w,goInt])
  · have run:∀ ad n c,(Builtin.cap_ argTypes ty #[.slice ad n c]).run P w=.ok (.int .i64 c) w:=by
      intro ad n c
      simp [Builtin.cap_,h0,run_underlying ht w,goInt]
    cases x<;>simp only [xR7,reduceCtorEq,Option.some.injEq] at e
    · subst e; simp only [VR] at hu; subst hu; exact wD (run _ _ _)
    · rename_i id off len sz cap
      cases cap with
      | none=>simp only [reduceCtorEq] at e
      | some k =>
        simp only [Option.some.injEq] at e
        subst e
        simp only [VR] at hu
        obtain ⟨_,_,_,rfl,_,rfl⟩:=hu
        exact wD (run _ _ _)
    · subst e; simp only [VR] at hu; obtain ⟨_,rfl⟩:=hu; exact wD (run _ _ _)
end
end Go.Abs
end
end
