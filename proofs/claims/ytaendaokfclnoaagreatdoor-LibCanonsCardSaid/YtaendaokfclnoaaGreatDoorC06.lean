/- A part of the proof that LibSwaps answers true at every input: AbsRead3, AbsEq, AbsRead4. -/
import Derived.Test.YtaendaokfclnoaaGreatDoorC05
import Derived.ChangeKeysEq
import Derived.LaidEql
noncomputable section
section
namespace Go.Abs
variable [envI:Env]
section
variable {P:Program} {X:Ctx} {ρ:Nm} {h:H} {w:World} {L:Nat→Prop}
omit envI in
theorem xXj {n:Int} {hi l:Nat} (e:pE n hi=some l):0≤n∧n≤(hi:Int)∧n.toNat=l:=by
 unfold pE at e
 cases hc:(leI 0 n&&leI n (.ofNat hi)) with
 | false=>rw [hc] at e; cases e
 | true =>
  rw [hc] at e; cases e
  simp only [Bool.and_eq_true] at hc
  exact ⟨pC hc.1,pC hc.2,rfl⟩
omit envI in
theorem xO7 {k:IntKind} {n:Int} {y:Nat} {l:Nat} (code:BoundsCode) (h1:0≤n) (h2:n≤(y:Int)) (h3:n.toNat=l) :
  (Instr.sliceBound (.int k n) y code).run P w=.ok l w:=by
 have h12:0≤n∧n≤(y:Int):=⟨h1,h2⟩
 simp only [Instr.sliceBound,asIntOf,Sem.run_bind,Sem.run_pure,Result.andThen_ok,if_pos h12,h3]
omit envI in
theorem bI {n:Int} {known l:Nat} (e:pE n known=some l) {k:IntKind} {y:Nat} (hy:known≤y) (code:BoundsCode):(Instr.sliceBound (.int k n) y code).run P w=.ok l w∧l≤known:=by
 obtain ⟨h1,h2,h3⟩:=xXj e
 exact ⟨xO7 code h1 (by omega) h3,by omega⟩
theorem xCq {a:AV} {vs:List Value} (hv:VRs w ρ L [a] vs):∃ v,vs=[v]∧VR w ρ L a v:=by
 simp only [VRs] at hv
 obtain ⟨v,vs',e1,e2,e3⟩:=hv
 exact ⟨v,by rw [e1,e3],e2⟩
theorem nE {a:AV} {as1:List AV} {vs:List Value} (hv:VRs w ρ L (a::as1) vs):∃ v vs',vs=v::vs'∧VR w ρ L a v∧VRs w ρ L as1 vs':=by
 simp only [VRs] at hv
 exact hv
theorem xYn {vs:List Value} (hv:VRs w ρ L [] vs):vs=[]:=by simpa only [VRs] using hv
theorem vZ {isSlice:Bool} {len c:Nat} {cap:Option Nat} (hc:cap.getD len≤c) (hlc:len≤c) {lo hi mx:Option Value} {avs:List AV}
  (hv:VRs w ρ L avs (lo.toList++hi.toList++mx.toList)) {l hh:Nat} {m:Option Nat} (e:kT len cap lo.isSome hi.isSome mx.isSome avs=some (l,hh,m)) :
  (Instr.sliceBounds isSlice len c lo hi mx).run P w=.ok (l,hh,m.getD c) w∧l≤hh∧hh≤m.getD c∧m.getD c≤c∧(m=none→hh≤max len (cap.getD len))∧(∀ k,m=some k→k≤cap.getD len):=by
 rcases avs with _ | ⟨a,_ | ⟨b,_ | ⟨d,_ | ⟨f,as1⟩⟩⟩⟩
 ·cases lo<;>cases hi<;>cases mx<;>simp only [Option.isSome_none,Option.isSome_some,kT,Option.some.injEq,Prod.mk.injEq,reduceCtorEq] at e
  obtain ⟨rfl,rfl,rfl⟩:=e
  exact ⟨by simp [Instr.sliceBounds],by omega,hlc,Nat.le_refl _,by omega,fun k hk=>by cases hk⟩
 ·cases lo<;>cases hi<;>cases mx<;>cases a<;>simp only [Option.isSome_none,Option.isSome_some,kT,reduceCtorEq] at e
  ·rename_i y k n
   simp only [Option.toList,List.append_nil,List.nil_append] at hv
   obtain ⟨v,h1,h2⟩:=xCq hv
   cases h1
   have e2:=int_of h2; subst e2
   cases hn:pE n (cap.getD len) with
   | none=>rw [hn] at e; cases e
   | some q =>
    rw [hn] at e
    simp only [Option.some.injEq,Prod.mk.injEq] at e
    obtain ⟨rfl,rfl,rfl⟩:=e
    obtain ⟨h3,h4⟩:=bI (P:=P) (w:=w) hn (k:=k) hc (if isSlice then .sliceAcap else .sliceAlen)
    exact ⟨by simp [Instr.sliceBounds,h3],by omega,by simp; omega,Nat.le_refl _,by omega,fun k hk=>by cases hk⟩
  ·rename_i y k n
   simp only [Option.toList,List.append_nil] at hv
   obtain ⟨v,h1,h2⟩:=xCq hv
   cases h1
   have e2:=int_of h2; subst e2
   cases hn:pE n len with
   | none=>rw [hn] at e; cases e
   | some q =>
    rw [hn] at e
    simp only [Option.some.injEq,Prod.mk.injEq] at e
    obtain ⟨rfl,rfl,rfl⟩:=e
    obtain ⟨h3,h4⟩:=bI (P:=P) (w:=w) hn (k:=k) (Nat.le_refl _) .sliceB
    exact ⟨by simp [Instr.sliceBounds,h3],h4,hlc,Nat.le_refl _,by omega,fun k hk=>by cases hk⟩
 ·cases lo<;>cases hi<;>cases mx<;>cases a<;>cases b<;>simp only [Option.isSome_none,Option.isSome_some,kT,reduceCtorEq] at e
  ·rename_i x y k n k' n'
   simp only [Option.toList,List.nil_append,List.cons_append] at hv
   obtain ⟨v,vs',h1,h2,h3⟩:=nE hv
   obtain ⟨u,h4,h5⟩:=xCq h3
   subst h4
   cases h1
   have e2:=int_of h2; subst e2
   have e3:=int_of h5; subst e3
   cases hn:pE n' (cap.getD len) with
   | none=>rw [hn] at e; cases e
   | some q =>
    rw [hn] at e
    simp only at e
    cases hn2:pE n q with
    | none=>rw [hn2] at e; cases e
    | some q' =>
     rw [hn2] at e
     simp only [Option.some.injEq,Prod.mk.injEq] at e
     obtain ⟨rfl,rfl,rfl⟩:=e
     obtain ⟨h6,h7⟩:=bI (P:=P) (w:=w) hn (k:=k') hc (if isSlice then .slice3Acap else .slice3Alen)
     obtain ⟨h8,h9⟩:=bI (P:=P) (w:=w) hn2 (k:=k) (Nat.le_refl _) .slice3B
     exact ⟨by simp [Instr.sliceBounds,h6,h8],by omega,h9,by simp; omega,fun hk=>(by cases hk),fun k hk=>by cases hk; exact h7⟩
  ·rename_i x y k n k' n'
   simp only [Option.toList,List.append_nil,List.nil_append,List.cons_append] at hv
   obtain ⟨v,vs',h1,h2,h3⟩:=nE hv
   obtain ⟨u,h4,h5⟩:=xCq h3
   subst h4
   cases h1
   have e2:=int_of h2; subst e2
   have e3:=int_of h5; subst e3
   cases hn:pE n' (cap.getD len) with
   | none=>rw [hn] at e; cases e
   | some q =>
    rw [hn] at e
    simp only at e
    cases hn2:pE n q with
    | none=>rw [hn2] at e; cases e
    | some q' =>
     rw [hn2] at e
     simp only [Option.some.injEq,Prod.mk.injEq] at e
     obtain ⟨rfl,rfl,rfl⟩:=e
     obtain ⟨h6,h7⟩:=bI (P:=P) (w:=w) hn (k:=k') hc (if isSlice then .sliceAcap else .sliceAlen)
     obtain ⟨h8,h9⟩:=bI (P:=P) (w:=w) hn2 (k:=k) (Nat.le_refl _) .sliceB
     exact ⟨by simp [Instr.sliceBounds,h6,h8],h9,by simp; omega,Nat.le_refl _,by omega,fun k hk=>by cases hk⟩
 ·cases lo<;>cases hi<;>cases mx<;>cases a<;>cases b<;>(try (simp only [Option.isSome_none,Option.isSome_some,kT,reduceCtorEq] at e; done))<;>cases d<;>simp only [Option.isSome_some,kT,reduceCtorEq] at e
  rename_i x y z k n k' n' k'' n''
  simp only [Option.toList,List.nil_append,List.cons_append] at hv
  obtain ⟨v,vs',h1,h2,h3⟩:=nE hv
  obtain ⟨u,vs'',h4,h5,h5'⟩:=nE h3
  obtain ⟨u',h4',h5''⟩:=xCq h5'
  subst h4'; subst h4
  cases h1
  have e2:=int_of h2; subst e2
  have e3:=int_of h5; subst e3
  have e4:=int_of h5''; subst e4
  cases hn:pE n'' (cap.getD len) with
  | none=>rw [hn] at e; cases e
  | some q =>
   rw [hn] at e
   simp only at e
   cases hn2:pE n' q with
   | none=>rw [hn2] at e; cases e
   | some q' =>
    rw [hn2] at e
    simp only at e
    cases hn3:pE n q' with
    | none=>rw [hn3] at e; cases e
    | some q'' =>
     rw [hn3] at e
     simp only [Option.some.injEq,Prod.mk.injEq] at e
     obtain ⟨rfl,rfl,rfl⟩:=e
     obtain ⟨h6,h7⟩:=bI (P:=P) (w:=w) hn (k:=k'') hc (if isSlice then .slice3Acap else .slice3Alen)
     obtain ⟨h8,h9⟩:=bI (P:=P) (w:=w) hn2 (k:=k') (Nat.le_refl _) .slice3B
     obtain ⟨h10,h11⟩:=bI (P:=P) (w:=w) hn3 (k:=k) (Nat.le_refl _) .slice3C
     exact ⟨by simp [Instr.sliceBounds,h6,h8,h10],h11,h9,by simp; omega,fun hk=>(by cases hk),fun k hk=>by cases hk; exact h7⟩
 ·cases lo<;>cases hi<;>cases mx<;>simp only [Option.isSome_none,Option.isSome_some] at e<;>(unfold kT at e; split at e<;>first | (cases e; done) | (rename_i hq; simp at hq; done) | skip)
omit envI in
theorem xLl (s:ByteArray) (l hh:Nat):xP (s.extract l hh)=((xP s).drop l).take (hh - l):=by
 simp only [xP,ByteArray.data_extract,Array.toList_extract,List.extract]
 rw [List.map_take,List.map_drop]
theorem xO1 {t:TypeId} (ht:P.underlying t=some .string) {a r:AV} {as1:List AV} {x:Value} {lo hi:Option Value} (hx:VR w ρ L a x) (hv:VRs w ρ L as1 (lo.toList++hi.toList))
  (e:dI .str lo.isSome hi.isSome false (a::as1)=some r):∃ v,(Instr.sliceAt t x lo hi none).run P w=.ok v w∧VR w ρ L r v:=by
 cases a<;>simp only [dI,reduceCtorEq] at e
 rename_i s
 simp only [VR] at hx
 obtain ⟨z,rfl,rfl⟩:=hx
 cases hb:kT (xP z).length none lo.isSome hi.isSome false as1 with
 | none=>rw [hb] at e; cases e
 | some q =>
  obtain ⟨l,hh,m⟩:=q
  rw [hb] at e; cases e
  rw [gB] at hb
  have:=vZ (P:=P) (w:=w) (ρ:=ρ) (L:=L) (isSlice:=false) (len:=z.size) (c:=z.size) (cap:=none) (Nat.le_refl _) (Nat.le_refl _) (lo:=lo) (hi:=hi) (mx:=none) (avs:=as1)
   (by simpa using hv) hb
  obtain ⟨h1,_⟩:=this
  refine ⟨.string (z.extract l hh),?_,by simp only [VR]; exact ⟨_,rfl,xLl z l hh⟩⟩
  simp only [Instr.sliceAt,Sem.run_bind,run_underlying ht w,Result.andThen_ok,Instr.slice]
  simp [h1]
theorem xO0 {t el:TypeId} (ht:P.underlying t=some (.slice el)) {n:Option Nat} (hn:mX P el=some n) {a r:AV} {as1:List AV} {x:Value} {lo hi mx:Option Value} (hx:VR w ρ L a x)
  (hv:VRs w ρ L as1 (lo.toList++hi.toList++mx.toList)) (e:dI (.slc (P.cellsOf el)) lo.isSome hi.isSome mx.isSome (a::as1)=some r) :
  ∃ v,(Instr.sliceAt t x lo hi mx).run P w=.ok v w∧VR w ρ L r v:=by
 obtain ⟨d,hu,_,_⟩:=kS hn
 have run:∀ {ad:Option Addr} {len c l hh m:Nat},(Instr.sliceBounds true len c lo hi mx).run P w=.ok (l,hh,m) w →
   (Instr.sliceAt t (.slice ad len c) lo hi mx).run P w=.ok (.slice (if m=l then ad else ad.map (·.add (l*P.cellsOf el))) (hh - l) (m - l)) w:=by
  intro ad len c l hh m hb
  simp only [Instr.sliceAt,Sem.run_bind,run_underlying ht w,Result.andThen_ok,Instr.slice,hb,yY hu w,Sem.run_pure]
 cases a<;>simp only [dI,reduceCtorEq] at e
 case nils =>
  simp only [VR] at hx; subst hx
  cases hb:kT 0 (some 0) lo.isSome hi.isSome mx.isSome as1 with
  | none=>rw [hb] at e; cases e
  | some q =>
   obtain ⟨l,hh,m⟩:=q
   rw [hb] at e; cases e
   obtain ⟨h1,h2,h3,h4,_⟩:=vZ (P:=P) (w:=w) (isSlice:=true) (len:=0) (c:=0) (cap:=some 0) (by simp) (Nat.le_refl _) hv hb
   refine ⟨_,run h1,?_⟩
   have e1:hh=0:=by omega
   have e2:l=0:=by omega
   have e3:m.getD 0=0:=by omega
   simp only [VR,e1,e2,e3,if_true]
 case slc id off len sz cap =>
  cases hz:Nat.beq (P.cellsOf el) sz with
  | false=>rw [hz] at e; cases e
  | true =>
   have ez:=Nat.eq_of_beq_eq_true hz
   rw [hz] at e
   simp only [cond_true] at e
   cases hb:kT len cap lo.isSome hi.isSome mx.isSome as1 with
   | none=>rw [hb] at e; cases e
   | some q =>
    obtain ⟨l,hh,m⟩:=q
    rw [hb] at e
    simp only [VR] at hx
    obtain ⟨b,c,hb0,rfl,hlc,hcap⟩:=hx
    have hcc:cap.getD len≤c:=by
     cases cap with
     | none=>exact hlc
     | some k=>simp only at hcap; simp; omega
    obtain ⟨h1,h2,h3,h4,h5,h6⟩:=vZ (P:=P) (w:=w) (isSlice:=true) (cap:=cap) hcc hlc hv hb
    refine ⟨_,run h1,?_⟩
    cases m with
    | some m =>
     simp only [Option.some.injEq] at e; subst e
     simp only [Option.getD_some] at h3 h4 ⊢
     simp only [VR]
     refine ⟨b,m - l,hb0,?_,by omega,rfl⟩
     by_cases hml:m=l
     ·subst hml; simp
     ·rw [if_neg hml]
      have:Nat.beq m l=false:=by
       cases hq:Nat.beq m l with
       | false=>rfl
       | true=>exact absurd (Nat.eq_of_beq_eq_true hq) hml
      rw [this]
      simp only [Option.map_some,cond_false,add_plain,ez]
    | none =>
     simp only [Option.getD_none] at h3 ⊢
     have h5':=h5 rfl
     cases cap with
     | some k =>
      simp only at hcap; subst hcap
      simp only [Option.some.injEq] at e; subst e
      simp only [VR]
      refine ⟨b,c - l,hb0,?_,by omega,rfl⟩
      by_cases hml:c=l
      ·subst hml; simp
      ·rw [if_neg hml]
       have:Nat.beq c l=false:=by
        cases hq:Nat.beq c l with
        | false=>rfl
        | true=>exact absurd (Nat.eq_of_beq_eq_true hq) hml
       rw [this]
       simp only [Option.map_some,cond_false,add_plain,ez]
     | none =>
      simp only at hcap
      simp only [Option.getD_none,Nat.max_self] at h5'
      simp only at e
      cases hl0:Nat.beq l 0 with
      | true =>
       rw [hl0] at e
       simp only [cond_true,Option.some.injEq] at e; subst e
       have:=Nat.eq_of_beq_eq_true hl0; subst this
       simp only [VR]
       refine ⟨b,c,hb0,?_,h3,by rw [ez]; exact hcap⟩
       have e0:(⟨b,off,none⟩:Addr).add 0=⟨b,off,none⟩:=by simp [Addr.add]
       by_cases hml:c=0
       ·simp [hml]
       ·simp [hml,e0]
      | false =>
       rw [hl0] at e
       simp only [cond_false] at e
       cases hll:Nat.blt l len with
       | true =>
        rw [hll] at e
        simp only [cond_true,Option.some.injEq] at e; subst e
        have:=xEa hll
        have hne:¬ c=l:=by omega
        simp only [VR]
        refine ⟨b,c - l,hb0,?_,by omega,?_⟩
        ·rw [if_neg hne]; simp only [Option.map_some,add_plain,ez]
        ·rw [← ez] at hcap
         rw [← hcap,Nat.sub_mul]
         have:l*P.cellsOf el≤c*P.cellsOf el:=Nat.mul_le_mul_right _ (by omega)
         omega
       | false =>
        rw [hll] at e
        simp only [cond_false,Option.some.injEq] at e; subst e
        have hge:¬ l<len:=fun hx=>by
         have:Nat.blt l len=true:=Nat.ble_eq_true_of_le hx
         rw [this] at hll; cases hll
        simp only [VR]
        have:hh - l=0:=by omega
        refine ⟨_,_,by rw [this],by omega,.inl ⟨trivial,?_⟩⟩
        by_cases hcl:c=l
        ·simp [hcl]
        ·simp [hcl]
 case rslc len cs =>
  cases hb:kT len none lo.isSome hi.isSome mx.isSome as1 with
  | none=>rw [hb] at e; cases e
  | some q =>
   obtain ⟨l,hh,m⟩:=q
   rw [hb] at e
   simp only [VR] at hx
   obtain ⟨ad,c,rfl,hlc,hcs⟩:=hx
   obtain ⟨h1,h2,h3,h4,h5,h6⟩:=vZ (P:=P) (w:=w) (isSlice:=true) (cap:=none) (by simpa using hlc) hlc hv hb
   have part:∀ {M:Nat},hh≤M→VR w ρ L (.rslc (hh - l) ((cs.drop (l*P.cellsOf el)).take ((hh - l)*P.cellsOf el))) (.slice (if M=l then ad else ad.map (·.add (l*P.cellsOf el))) (hh - l) (M - l)):=by
    intro M hM
    simp only [VR]
    refine ⟨_,_,rfl,by omega,?_⟩
    have had:ad.isSome=true:=by
     rcases hcs with ⟨_,hs⟩ | ⟨_,_,_,_,_,rfl,_⟩
     ·exact hs
     ·rfl
    by_cases hml:M=l
    ·left
     have:hh - l=0:=by omega
     rw [this,if_pos hml]; exact ⟨by simp,had⟩
    ·rcases hcs with ⟨rfl,_⟩ | ⟨b,off,cc,el',fz,rfl,g1,g2,g3⟩
     ·left; rw [if_neg hml]; exact ⟨by simp,by simpa using had⟩
     ·right
      refine ⟨b,off+l*P.cellsOf el,cc,el',fz,by rw [if_neg hml]; simp only [Option.map_some,add_plain],g1,g2,?_⟩
      have:=(g3.drop (l*P.cellsOf el)).take ((hh - l)*P.cellsOf el)
      rwa [List.drop_drop] at this
   cases m with
   | none =>
    simp only [Option.some.injEq] at e; subst e
    exact ⟨_,run h1,part h3⟩
   | some m =>
    simp only [Option.getD_some] at h1 h3 h4
    simp only at e
    cases hml:Nat.beq m l with
    | true =>
     rw [hml] at e; cases e
     have:=Nat.eq_of_beq_eq_true hml; subst this
     refine ⟨_,run h1,?_⟩
     have e1:hh - m=0:=by omega
     simp only [VR,e1,Nat.sub_self]
     exact ⟨_,rfl⟩
    | false =>
     rw [hml] at e; cases e
     exact ⟨_,run h1,part h3⟩
 case eslc =>
  simp only [VR] at hx
  obtain ⟨ad,rfl⟩:=hx
  cases hb:kT 0 (some 0) lo.isSome hi.isSome mx.isSome as1 with
  | none=>rw [hb] at e; cases e
  | some q =>
   obtain ⟨l,hh,m⟩:=q
   rw [hb] at e; cases e
   obtain ⟨h1,h2,h3,h4,_⟩:=vZ (P:=P) (w:=w) (isSlice:=true) (len:=0) (c:=0) (cap:=some 0) (by simp) (Nat.le_refl _) hv hb
   refine ⟨_,run h1,?_⟩
   have e1:hh=0:=by omega
   have e2:l=0:=by omega
   have e3:m.getD 0=0:=by omega
   simp only [VR,e1,e2,e3]
   exact ⟨_,rfl⟩
theorem xNz {t el:TypeId} {k:Nat} (ht:P.underlying t=some (.array k el)) {n:Option Nat} (hn:mX P el=some n) {a r:AV} {as1:List AV} {x:Value} {lo hi mx:Option Value} (hx:VR w ρ L a x)
  (hv:VRs w ρ L as1 (lo.toList++hi.toList++mx.toList)) (e:dI (.arr k (P.cellsOf el)) lo.isSome hi.isSome mx.isSome (a::as1)=some r) :
  ∃ v,(Instr.sliceAt t x lo hi mx).run P w=.ok v w∧VR w ρ L r v:=by
 obtain ⟨d,hu,_,_⟩:=kS hn
 cases a<;>simp only [dI,reduceCtorEq] at e
 case ptr id off =>
  cases hb:kT k (some k) lo.isSome hi.isSome mx.isSome as1 with
  | none=>rw [hb] at e; cases e
  | some q =>
   obtain ⟨l,hh,m⟩:=q
   rw [hb] at e
   simp only [Option.some.injEq] at e; subst e
   simp only [VR] at hx
   obtain ⟨b,hb0,rfl⟩:=hx
   obtain ⟨h1,h2,h3,h4,h5,h6⟩:=vZ (P:=P) (w:=w) (isSlice:=false) (len:=k) (c:=k) (cap:=some k) (by simp) (Nat.le_refl _) hv hb
   generalize hm:m.getD k=M at *
   refine ⟨.slice (some (if M=l then ⟨b,off,none⟩ else (⟨b,off,none⟩:Addr).add (l*P.cellsOf el))) (hh - l) (M - l),?_,?_⟩
   ·simp only [Instr.sliceAt,Sem.run_bind,run_underlying ht w,Result.andThen_ok,Instr.sureAddr,Sem.run_pure,h1,yY hu w]
   ·simp only [VR]
    refine ⟨b,M - l,hb0,?_,by omega,rfl⟩
    by_cases hml:M=l
    ·subst hml; simp
    ·rw [if_neg hml]
     have:Nat.beq M l=false:=by
      cases hq:Nat.beq M l with
      | false=>rfl
      | true=>exact absurd (Nat.eq_of_beq_eq_true hq) hml
     rw [this]
     simp only [cond_false,add_plain]
end
end Go.Abs
end
section
namespace Go.Abs
variable [envI:Env]
section
variable {P:Program} {X:Ctx} {ρ:Nm} {h:H} {w:World} {L:Nat→Prop}
def Rep (P:Program) (w:World) (ρ:Nm) (L:Nat→Prop) (t:TypeId) (x:Value) (xs:List AV):Prop :=
 match P.underlying t with
 | some (.struct _) | some (.array _ _)=>∃ arr,x=.agg arr∧VRs w ρ L xs arr.toList
 | _=>∃ a,xs=[a]∧VR w ρ L a x
omit envI in
theorem jM:∀ {ks ks':List CK} {xs ys xs' ys':List AV} {b:Bool},xs.length=ks.length→ys.length=ks.length→wB (ks++ks') (xs++xs') (ys++ys')=some b →
  (wB ks xs ys=some false∧b=false)∨(wB ks xs ys=some true∧wB ks' xs' ys'=some b)
 | [],ks',[],[],xs',ys',b,_,_,e=>.inr ⟨rfl,e⟩
 | [],_,_::_,_,_,_,_,hl,_,_=>by simp at hl
 | [],_,[],_::_,_,_,_,_,hl,_=>by simp at hl
 | _::_,_,[],_,_,_,_,hl,_,_=>by simp at hl
 | _::_,_,_::_,[],_,_,_,_,hl,_=>by simp at hl
 | k :: ks,ks',x::xs,y::ys,xs',ys',b,hl,hl',e=>by
  have hl1:xs.length=ks.length:=by simpa using hl
  have hl2:ys.length=ks.length:=by simpa using hl'
  simp only [List.cons_append] at e
  cases k<;>cases x<;>cases y<;>simp only [wB,reduceCtorEq] at e ⊢
  case b.bool.bool p q =>
   cases hp:p==q with
   | false=>rw [hp] at e; left; simp at e ⊢; exact e
   | true=>rw [hp] at e; simp only [cond_true] at e ⊢; exact jM hl1 hl2 e
  case i.int.int j p k q =>
   cases hk:eqK j k with
   | false=>rw [hk] at e; cases e
   | true =>
    rw [hk] at e
    simp only [cond_true] at e ⊢
    cases hp:eqI p q with
    | false=>rw [hp] at e; left; simp at e ⊢; exact e
    | true=>rw [hp] at e; simp only [cond_true] at e ⊢; exact jM hl1 hl2 e
  case s.str.str p q =>
   cases hp:eqS p q with
   | false=>rw [hp] at e; left; simp at e ⊢; exact e
   | true=>rw [hp] at e; simp only [cond_true] at e ⊢; exact jM hl1 hl2 e
  case s.str.sym p q =>
   cases hp:dL q p with
   | false=>rw [hp] at e; cases e
   | true=>rw [hp] at e; left; simp at e ⊢; exact e
  case s.sym.str p q =>
   cases hp:dL p q with
   | false=>rw [hp] at e; cases e
   | true=>rw [hp] at e; left; simp at e ⊢; exact e
  case s.sym.sym p q =>
   cases hp:nX p&&Nat.beq p q with
   | false=>rw [hp] at e; cases e
   | true=>rw [hp] at e; simp only [cond_true] at e ⊢; exact jM hl1 hl2 e
  case i.int.sym k p q =>
   left; exact ⟨by rw [e,xHl e],xHl e⟩
  case i.sym.int p k q =>
   left; exact ⟨by rw [e,xHl e],xHl e⟩
  case i.sym.sym p q =>
   cases hp:mV p&&Nat.beq p q with
   | false =>
    rw [hp] at e
    simp only [cond_false] at e ⊢
    cases ha:vD p q with
    | false=>rw [ha] at e; cases e
    | true =>
     rw [ha] at e
     cases ho:eqI (yD p) (yD q) with
     | false=>rw [ho] at e; left; simp at e ⊢; exact e
     | true=>rw [ho] at e; simp only [cond_true] at e ⊢; exact jM hl1 hl2 e
   | true=>rw [hp] at e; simp only [cond_true] at e ⊢; exact jM hl1 hl2 e
def xAh (P:Program) (d:Nat) (l:List CK) (f:Field):Option (List CK):=do
 if f.name == "_" || f.offset != l.length then none else
 let m ← mZ P d f.type
 if m.length != P.cellsOf f.type then none else pure (l++m)
omit envI in
theorem mD {d:Nat} {t:TypeId} {n:List CK} (e:mZ P (d+1) t=some n) :
  (P.underlying t=some .bool∧n=[.b])∨((∃ k,P.underlying t=some (.int k))∧n=[.i])∨(P.underlying t=some .string∧n=[.s]) ∨
  (∃ fs,P.underlying t=some (.struct fs)∧P.stoodInHeld t=false∧fs.toList.foldlM (xAh P d) []=some n):=by
 unfold mZ at e
 split at e
 ·rename_i hu; cases e; exact .inl ⟨hu,rfl⟩
 ·rename_i k hu; cases e; exact .inr (.inl ⟨⟨k,hu⟩,rfl⟩)
 ·rename_i hu; cases e; exact .inr (.inr (.inl ⟨hu,rfl⟩))
 ·rename_i fs hu
  split at e
  ·cases e
  ·rename_i hs
   exact .inr (.inr (.inr ⟨fs,hu,by simpa using hs,e⟩))
 ·cases e
theorem xAq {d:Nat} {t:TypeId} {m:List CK} (hm:mZ P d t=some m) (hc:m.length=P.cellsOf t) {arr:Array Value} {xs:List AV} (hv:VRs w ρ L xs arr.toList) {off:Nat} (hle:off+m.length≤xs.length) :
  ∃ y,(∀ w',(part t arr off).run P w'=.ok y w')∧Rep P w ρ L t y ((xs.drop off).take m.length):=by
 cases d with
 | zero=>simp [mZ] at hm
 | succ d =>
  have hlen:off+m.length≤arr.toList.length:=by rw [hv.length]; exact hle
  have hseg:VRs w ρ L ((xs.drop off).take m.length) ((arr.toList.drop off).take m.length):=(hv.drop off).take m.length
  have one:(P.underlying t=some .bool∨(∃ k,P.underlying t=some (.int k))∨P.underlying t=some .string)→m.length=1 →
    ∃ y,(∀ w',(part t arr off).run P w'=.ok y w')∧Rep P w ρ L t y ((xs.drop off).take m.length):=by
   intro hu h1
   have hn:mX P t=some none:=by
    unfold mX
    rcases hu with hu | ⟨k,hu⟩ | hu<;>rw [hu]
   have ha:xs[off]?=some xs[off]:=List.getElem?_eq_getElem (by omega)
   obtain ⟨v,h2,h3⟩:=hv.get ha
   refine ⟨v,fun w'=>xGp hn (by simp only [xBi]; exact h2) w',?_⟩
   have hx:(xs.drop off).take m.length=[xs[off]]:=by
    have e1:=List.drop_eq_getElem_cons (l:=xs) (i:=off) (by omega)
    rw [h1,e1]; rfl
   unfold Rep
   rcases hu with hu | ⟨k,hu⟩ | hu<;>rw [hu]<;>exact ⟨_,hx,h3⟩
  have many:(∃ D,P.underlying t=some D∧(match D with | .struct _ | .array _ _=>True | _=>False))→∃ y,(∀ w',(part t arr off).run P w'=.ok y w')∧Rep P w ρ L t y ((xs.drop off).take m.length):=by
   rintro ⟨D,hu,hD⟩
   cases D<;>first | (exact hD.elim) | skip
   all_goals
    have hn:mX P t=some (some m.length):=by unfold mX; rw [hu,hc]
    refine ⟨_,fun w'=>xGp hn (by simp only [xBi]; rw [if_pos (.inl hlen)]) w',?_⟩
    unfold Rep; rw [hu]
    exact ⟨_,rfl,by simpa using hseg⟩
  rcases mD hm with ⟨hu,rfl⟩ | ⟨⟨k,hu⟩,rfl⟩ | ⟨hu,rfl⟩ | ⟨fs,hu,_⟩
  ·exact one (.inl hu) rfl
  ·exact one (.inr (.inl ⟨k,hu⟩)) rfl
  ·exact one (.inr (.inr hu)) rfl
  ·exact many ⟨_,hu,trivial⟩
omit envI in
theorem xA7 {d : Nat} {l m : List CK} {f : Field} (e : xAh P d l f = some m) : f.name ≠ "_" ∧ f.offset = l.length ∧ ∃ k,mZ P d f.type = some k ∧ k.length = P.cellsOf f.type ∧ m = l ++ k := by
 unfold xAh at e
 split at e
 ·cases e
 ·rename_i hc
  simp only [Option.bind_eq_bind,Option.bind_eq_some_iff] at e
  obtain ⟨k,h3,h4⟩:=e
  split at h4
  ·cases h4
  ·rename_i hk
   simp only [Option.pure_def,Option.some.injEq] at h4; subst h4
   simp only [Bool.or_eq_true,beq_iff_eq,bne_iff_ne,ne_eq,not_or,Decidable.not_not] at hc
   exact ⟨hc.1,hc.2,k,h3,by simpa using hk,rfl⟩
omit envI in
theorem dB {d:Nat}:∀ {fs:List Field} {l n:List CK},fs.foldlM (xAh P d) l=some n→∃ k,n=l++k
 | [],l,n,e=>by simp at e; exact ⟨[],by simp [e]⟩
 | f::fs,l,n,e=>by
  simp only [List.foldlM_cons,Option.bind_eq_bind,Option.bind_eq_some_iff] at e
  obtain ⟨m,h1,h2⟩:=e
  obtain ⟨_,_,k,_,_,rfl⟩:=xA7 h1
  obtain ⟨k',rfl⟩:=dB h2
  exact ⟨k++k',by simp⟩
omit envI in
theorem xT2 {α:Type} (l:List α) (a b:Nat):l.drop a=(l.drop a).take b++l.drop (a+b):=by
 rw [← List.drop_drop]; exact (List.take_append_drop _ _).symm
theorem xCu {i:Nat} {k:IntKind} {n:Int} (h:vM i k n=true) {u:Value} (hu:VR w ρ L (.sym i) u):k=.i64∧∃ m:Int,u=.int .i64 m∧(m==n)=false∧(n==m)=false∧n<m:=by
 simp only [vM,Bool.and_eq_true] at h
 simp only [VR] at hu
 obtain ⟨m,h2,rfl,_⟩:=Env.big h.1 hu hu
 have h1:=nP (a:=n) (b:=1)
 rw [h.2.2] at h1
 have h3:n≤1:=by simpa using h1.symm
 have ne:¬ m=n:=by omega
 exact ⟨wP.1 h.2.1,m,rfl,by simpa using ne,by simpa using (fun e:n=m=>ne e.symm),by omega⟩
omit envI in
theorem xYz {s x:List Nat}:∀ {l:List (List Nat)},mI s l=true→mI x l=false→eqS s x=false∧eqS x s=false
 | [],h,_=>by cases h
 | a :: l,h,h'=>by
  simp only [mI,Bool.or_eq_true,Bool.or_eq_false_iff] at h h'
  rcases h with h | h
  ·have e:=qC.1 h
   subst e
   refine ⟨?_,h'.1⟩
   cases hb:eqS s x with
   | false=>rfl
   | true=>have e:=qC.1 hb; subst e; rw [h] at h'; exact absurd h'.1 (by simp)
  ·exact xYz h h'.2
theorem xCz {q:Nat} {p:List Nat} (hf:dL q p=true) {u:Value} (hu:VR w ρ L (.sym q) u):∃ x:ByteArray,u=.string x∧eqS p (xP x)=false∧eqS (xP x) p=false:=by
 simp only [dL,Bool.and_eq_true] at hf
 simp only [VR] at hu
 obtain ⟨x,_,rfl,_,_,h⟩:=Env.fre hf.1 hu hu
 obtain ⟨h1,h2⟩:=xYz hf.2 h
 exact ⟨x,rfl,h1,h2⟩
theorem bU:∀ (d D:Nat) (t:TypeId) (n:List CK),mZ P d t=some n→d≤D→∀ (x y:Value) (xs ys:List AV) (b:Bool),Rep P w ρ L t x xs→Rep P w ρ L t y ys→xs.length=n.length→ys.length=n.length →
  wB n xs ys=some b→(Op.equalIn D t x y).run P w=.ok b w:=by
 intro d
 induction d with
 | zero=>intro D t n e; simp [mZ] at e
 | succ d ih =>
  intro D t n e hD x y xs ys b hx hy hxl hyl he
  obtain ⟨D,rfl⟩:∃ D',D=D'+1:=⟨D - 1,by omega⟩
  rcases mD e with ⟨hu,rfl⟩ | ⟨⟨k,hu⟩,rfl⟩ | ⟨hu,rfl⟩ | ⟨fs,hu,hs,hf⟩
  ·unfold Rep at hx hy
   rw [hu] at hx hy
   obtain ⟨a,rfl,hx⟩:=hx
   obtain ⟨c,rfl,hy⟩:=hy
   cases a<;>cases c<;>simp only [wB,reduceCtorEq] at he
   rename_i p q
   rw [gA hx,gA hy,run_equalIn_bool' w D t p q hu]
   cases hp:p==q with
   | false=>rw [hp] at he; cases he; rfl
   | true=>rw [hp] at he; cases he; rfl
  ·unfold Rep at hx hy
   rw [hu] at hx hy
   obtain ⟨a,rfl,hx⟩:=hx
   obtain ⟨c,rfl,hy⟩:=hy
   cases a<;>cases c<;>simp only [wB,reduceCtorEq] at he
   ·rename_i j p j' q
    cases hk:eqK j j' with
    | false=>rw [hk] at he; cases he
    | true =>
     rw [hk] at he
     rw [wP] at hk; subst hk
     rw [int_of hx,int_of hy,run_equalIn_int w D t j k p q hu]
     simp only [cond_true,kE] at he
     cases hp:p==q with
     | false=>rw [hp] at he; cases he; rfl
     | true=>rw [hp] at he; cases he; rfl
   ·rename_i j p i
    cases hf:vM i j p with
    | false =>
     rw [hf] at he
     obtain ⟨rfl,rfl,m,rfl,_,h2⟩:=xCs he hy
     rw [int_of hx,run_equalIn_int w D t .i64 k p m hu,h2]
    | true =>
     rw [hf] at he; cases he
     obtain ⟨rfl,m,rfl,_,h2,_⟩:=xCu hf hy
     rw [int_of hx,run_equalIn_int w D t .i64 k p m hu,h2]
   ·rename_i i j p
    cases hf:vM i j p with
    | false =>
     rw [hf] at he
     obtain ⟨rfl,rfl,m,rfl,h1,_⟩:=xCs he hx
     rw [int_of hy,run_equalIn_int w D t .i64 k m p hu,h1]
    | true =>
     rw [hf] at he; cases he
     obtain ⟨rfl,m,rfl,h1,_,_⟩:=xCu hf hx
     rw [int_of hy,run_equalIn_int w D t .i64 k m p hu,h1]
   ·rename_i i i'
    cases hf:mV i&&Nat.beq i i' with
    | false =>
     rw [hf] at he
     simp only [cond_false] at he
     cases ha:vD i i' with
     | false=>rw [ha] at he; cases he
     | true =>
      rw [ha] at he
      obtain ⟨m,n,rfl,rfl,hd⟩:=xR4 ha hx hy
      rw [run_equalIn_int w D t .i64 k m n hu,hd]
      cases ho:eqI (yD i) (yD i') with
      | false=>rw [ho] at he; cases he; rfl
      | true=>rw [ho] at he; cases he; rfl
    | true =>
     rw [hf] at he; cases he
     rw [Bool.and_eq_true] at hf
     have e:=Nat.eq_of_beq_eq_true hf.2
     subst e
     simp only [VR] at hx hy
     obtain ⟨m,_,rfl,rfl⟩:=Env.big hf.1 hx hy
     rw [run_equalIn_int w D t .i64 k m m hu]
     simp
  ·unfold Rep at hx hy
   rw [hu] at hx hy
   obtain ⟨a,rfl,hx⟩:=hx
   obtain ⟨c,rfl,hy⟩:=hy
   cases a<;>cases c<;>simp only [wB,reduceCtorEq] at he
   case succ.inr.inr.inl.str.str p q =>
    simp only [VR] at hx hy
    obtain ⟨x,rfl,rfl⟩:=hx
    obtain ⟨y,rfl,rfl⟩:=hy
    rw [run_equalIn_string w D t x y hu]
    rw [qJ] at he
    cases hp:x.toList==y.toList with
    | false=>rw [hp] at he; cases he; rfl
    | true=>rw [hp] at he; cases he; rfl
   case succ.inr.inr.inl.str.sym p q =>
    cases hf:dL q p with
    | false=>rw [hf] at he; cases he
    | true =>
     rw [hf] at he; cases he
     obtain ⟨y,rfl,h1,_⟩:=xCz hf hy
     simp only [VR] at hx
     obtain ⟨x,rfl,rfl⟩:=hx
     rw [run_equalIn_string w D t x y hu,← qJ,h1]
   case succ.inr.inr.inl.sym.str p q =>
    cases hf:dL p q with
    | false=>rw [hf] at he; cases he
    | true =>
     rw [hf] at he; cases he
     obtain ⟨x,rfl,_,h1⟩:=xCz hf hx
     simp only [VR] at hy
     obtain ⟨y,rfl,rfl⟩:=hy
     rw [run_equalIn_string w D t x y hu,← qJ,h1]
   case succ.inr.inr.inl.sym.sym p q =>
    cases hf:nX p&&Nat.beq p q with
    | false=>rw [hf] at he; cases he
    | true =>
     rw [hf] at he; cases he
     rw [Bool.and_eq_true] at hf
     have e:=Nat.eq_of_beq_eq_true hf.2
     subst e
     simp only [VR] at hx hy
     obtain ⟨x,y,rfl,rfl,h1,_⟩:=Env.fre hf.1 hx hy
     rw [run_equalIn_string w D t x y hu,← qJ,h1]
     rw [qC.2 rfl]
  ·unfold Rep at hx hy
   rw [hu] at hx hy
   obtain ⟨ax,rfl,hx⟩:=hx
   obtain ⟨ay,rfl,hy⟩:=hy
   have hfo:P.fieldsOf t=fs:=by unfold Program.fieldsOf; rw [hu]
   rw [run_equalIn_agg w D t ax ay (by rw [hfo]; exact hu) hs,hfo]
   have key:∀ (l:List Field) (ks rest:List CK),l.foldlM (xAh P d) ks=some n→n=ks++rest→wB rest (xs.drop ks.length) (ys.drop ks.length)=some b →
     (Op.eqFields D ax ay l).run P w=.ok b w:=by
    intro l
    induction l with
    | nil =>
     intro ks rest h1 h2 h3
     simp at h1; subst h1
     have:rest=[]:=by simpa using h2
     subst this
     have e1:xs.drop ks.length=[]:=by rw [List.drop_eq_nil_iff]; omega
     have e2:ys.drop ks.length=[]:=by rw [List.drop_eq_nil_iff]; omega
     rw [e1,e2] at h3
     simp only [wB,Option.some.injEq] at h3; subst h3
     simp [Op.eqFields]
    | cons f l ihl =>
     intro ks rest h1 h2 h3
     simp only [List.foldlM_cons,Option.bind_eq_bind,Option.bind_eq_some_iff] at h1
     obtain ⟨q,h4,h5⟩:=h1
     obtain ⟨g1,g2,k,g3,g4,rfl⟩:=xA7 h4
     obtain ⟨k',hk'⟩:=dB h5
     have hrest:rest=k++k':=by
      rw [h2,List.append_assoc] at hk'
      exact List.append_cancel_left hk'
     subst hrest
     have hlx:f.offset+k.length≤xs.length:=by rw [g2,hxl,hk']; simp only [List.length_append]; omega
     have hly:f.offset+k.length≤ys.length:=by rw [g2,hyl,hk']; simp only [List.length_append]; omega
     obtain ⟨x1,p1,p2⟩:=xAq (P:=P) g3 g4 hx hlx
     obtain ⟨y1,q1,q2⟩:=xAq (P:=P) g3 g4 hy hly
     rw [xT2 xs ks.length k.length,xT2 ys ks.length k.length] at h3
     rw [g2] at p2 q2
     have l1:((xs.drop ks.length).take k.length).length=k.length:=by simp; omega
     have l2:((ys.drop ks.length).take k.length).length=k.length:=by simp; omega
     simp only [Op.eqFields,if_pos g1,Sem.run_bind,p1,q1,Result.andThen_ok]
     rcases jM l1 l2 h3 with ⟨r1,r2⟩ | ⟨r1,r2⟩
     ·rw [ih D f.type k g3 (by omega) x1 y1 _ _ false p2 q2 l1 l2 r1]
      subst r2
      simp
     ·rw [ih D f.type k g3 (by omega) x1 y1 _ _ true p2 q2 l1 l2 r1]
      simp only [Result.andThen_ok,Bool.not_true,Bool.false_eq_true,if_false]
      exact ihl (ks++k) k' h5 (by rw [hk']) (by simpa using r2)
   exact key fs.toList [] n hf rfl (by simpa using he)
theorem xP9 {t e:TypeId} {n:Nat} {ks:List CK} (hu:P.underlying t=some (.array n e)) (hf:xRr P n e=some ks) {D:Nat} (hD:10≤D) {ax ay:Array Value} {xs ys:List AV} {b:Bool} (hx:VRs w ρ L xs ax.toList) (hy:VRs w ρ L ys ay.toList)
  (hxl:xs.length=ks.length) (hyl:ys.length=ks.length) (he:wB ks xs ys=some b):(Op.equalIn (D+1) t (.agg ax) (.agg ay)).run P w=.ok b w:=by
 unfold xRr at hf
 cases hk:mZ P 10 e with
 | none=>rw [hk] at hf; cases hf
 | some k =>
  rw [hk] at hf
  simp only at hf
  split at hf
  ·rename_i hc
   simp only [Option.some.injEq] at hf
   subst hf
   have hi:∃ i,P.info? e=some i:=by
    cases h:P.info? e with
    | some i=>exact ⟨i,rfl⟩
    | none =>
     exfalso
     unfold mZ at hk
     simp only [Program.underlying,h] at hk
     cases hk
   obtain ⟨i,hi⟩:=hi
   rw [run_equalIn_array w D ax ay hu hi,List.range_eq_range']
   have key:∀ (m j:Nat),wB (List.replicate m k).flatten (xs.drop (j*k.length)) (ys.drop (j*k.length))=some b→xs.length=(j+m)*k.length→ys.length=(j+m)*k.length →
     (Op.eqItems D e (P.cellsOf e) ax ay (List.range' j m)).run P w=.ok b w:=by
    intro m
    induction m with
    | zero =>
     intro j h h1 h2
     have e1:xs.drop (j*k.length)=[]:=by rw [List.drop_eq_nil_iff]; simp at h1; omega
     have e2:ys.drop (j*k.length)=[]:=by rw [List.drop_eq_nil_iff]; simp at h2; omega
     rw [e1,e2] at h
     simp only [List.replicate_zero,List.flatten_nil,wB,Option.some.injEq] at h
     subst h
     simp [Op.eqItems]
    | succ m ih =>
     intro j h h1 h2
     have hm:(j+(m+1))*k.length=j*k.length+k.length+m*k.length:=by rw [Nat.add_mul,Nat.succ_mul]; omega
     obtain ⟨x1,p1,p2⟩:=xAq (P:=P) hk hc hx (off:=j*k.length) (by omega)
     obtain ⟨y1,q1,q2⟩:=xAq (P:=P) hk hc hy (off:=j*k.length) (by omega)
     rw [List.replicate_succ,List.flatten_cons,xT2 xs (j*k.length) k.length,xT2 ys (j*k.length) k.length] at h
     have l1:((xs.drop (j*k.length)).take k.length).length=k.length:=by simp; omega
     have l2:((ys.drop (j*k.length)).take k.length).length=k.length:=by simp; omega
     rw [List.range'_succ]
     simp only [Op.eqItems,← hc,Sem.run_bind,p1,q1,Result.andThen_ok]
     rcases jM l1 l2 h with ⟨r1,r2⟩ | ⟨r1,r2⟩
     ·rw [bU 10 D e k hk hD x1 y1 _ _ false p2 q2 l1 l2 r1]
      subst r2
      simp
     ·rw [bU 10 D e k hk hD x1 y1 _ _ true p2 q2 l1 l2 r1]
      simp only [Result.andThen_ok,Bool.not_true,Bool.false_eq_true,if_false]
      have e3:j*k.length+k.length=(j+1)*k.length:=by rw [Nat.succ_mul]
      rw [e3] at r2
      have:=ih (j+1) r2 (by rw [h1]; congr 1; omega) (by rw [h2]; congr 1; omega)
      rw [← hc] at this
      exact this
   have hlen:(List.replicate n k).flatten.length=n*k.length:=by simp
   exact key n 0 (by simpa using he) (by rw [hxl,hlen]; simp) (by rw [hyl,hlen]; simp)
  ·cases hf
end
end Go.Abs
end
section
namespace Go.Abs
variable [envI:Env]
section
variable {P:Program} {X:Ctx} {ρ:Nm} {h:H} {w:World} {L:Nat→Prop}
omit envI in
theorem zM {op:BinOp} {t:TypeId} {x y:Operand} {a b:Value} (h1:¬ (a=.nilIface∧b=.nilIface)) (h2:∀ xs ys,a=.agg xs→b=.agg ys→P.eqGuardType P.depth t=false) :
  (eqGuard op t x y a b).run P w=.ok () w:=by
 unfold eqGuard
 split
 ·simp only [Bool.not_true,Bool.false_eq_true,if_false]
  split
  ·exact absurd ⟨rfl,rfl⟩ h1
  ·simp [h2 _ _ rfl rfl]
  ·rfl
 ·simp only [Bool.not_true,Bool.false_eq_true,if_false]
  split
  ·exact absurd ⟨rfl,rfl⟩ h1
  ·simp [h2 _ _ rfl rfl]
  ·rfl
 ·rfl
omit envI in
theorem xGo {op:BinOp} {t:TypeId} {x y:Operand} (hc:(∃ v,x=.const v)∨(∃ v,y=.const v)):(eqGuard op t x y .nilIface .nilIface).run P w=.ok () w:=by
 unfold eqGuard
 cases op<;>(rcases hc with ⟨v,rfl⟩ | ⟨v,rfl⟩<;>simp)
def zAv:Value→Bool
 | .int _ _ | .string _ | .float _ _ | .complex _ _ _=>false
 | _=>true
omit envI in
theorem xF6 {t:TypeId} {a b:Value} {r:Bool} (hna:zAv a=true) (he:(Op.equalIn 10000 t a b).run P w=.ok r w) :
  (binOp .eql t a b).run P w=.ok (.bool r) w∧(binOp .neq t a b).run P w=.ok (.bool (!r)) w:=by
 constructor <;>
 ·unfold binOp
  cases a<;>first
   | (cases hna; done)
   | (simp only [Op.equal,Op.maxDepth,Sem.run_bind,he,Result.andThen_ok,Sem.run_pure])
set_option maxHeartbeats 1000000 in
theorem zZt {op:BinOp} {t:TypeId} {x y:Operand} {e:EqK} (hop:op=.eql∨op=.neq) (he:yDv P op t x y=some e) {a b r:AV} {u v:Value} (hu:VR w ρ L a u) (hv:VR w ρ L b v) (hr:xG op e a b=some r) :
  ∃ z,(do eqGuard op t x y u v; binOp op t u v:Sem Value).run P w=.ok z w∧VR w ρ L r z:=by
 have hb:∃ q,zG e a b=some q∧r=.bool (if op=.eql then q else !q):=by
  rcases hop with rfl | rfl
  ·simp only [xG,Option.map_eq_some_iff] at hr
   obtain ⟨q,h1,rfl⟩:=hr; exact ⟨q,h1,by simp⟩
  ·simp only [xG,Option.map_eq_some_iff] at hr
   obtain ⟨q,h1,rfl⟩:=hr; exact ⟨q,h1,by simp⟩
 obtain ⟨q,hq,rfl⟩:=hb
 suffices hs:(eqGuard op t x y u v).run P w=.ok () w∧((binOp .eql t u v).run P w=.ok (.bool q) w∧(binOp .neq t u v).run P w=.ok (.bool (!q)) w) by
  obtain ⟨g1,g2,g3⟩:=hs
  rcases hop with rfl | rfl
  ·exact wF (by rw [Sem.run_bind,g1]; simpa using g2)
  ·exact wF (by rw [Sem.run_bind,g1]; simpa using g3)
 have heq:xWw P t (isC x||isC y)=some e:=by rcases hop with rfl | rfl<;>exact he
 clear he hr
 have easy:∀ {r:Bool},¬ (u=.nilIface∧v=.nilIface)→(∀ xs,u≠.agg xs)→zAv u=true→(Op.equalIn 10000 t u v).run P w=.ok r w →
   (eqGuard op t x y u v).run P w=.ok () w∧((binOp .eql t u v).run P w=.ok (.bool r) w∧(binOp .neq t u v).run P w=.ok (.bool (!r)) w) :=
  fun h1 h2 h3 h4=>⟨zM h1 (fun xs ys hx _=>absurd hx (h2 xs)),xF6 h3 h4⟩
 have numstr : e=.one→(eqGuard op t x y u v).run P w=.ok () w∧((binOp .eql t u v).run P w=.ok (.bool q) w∧(binOp .neq t u v).run P w=.ok (.bool (!q)) w):=by
  intro e1; subst e1
  cases a<;>cases b<;>simp only [zG,reduceCtorEq] at hq
  ·rename_i j m k n
   rw [int_of hu,int_of hv]
   cases hk:eqK j k with
   | false=>rw [hk] at hq; cases hq
   | true =>
    rw [hk] at hq; cases hq
    rw [wP] at hk; subst hk
    rw [kE]
    exact ⟨zM (fun hx=>by cases hx.1) (fun xs ys hx _=>by cases hx),zL.2.2.2.2.1,zL.2.2.2.2.2⟩
  ·rename_i k n i
   cases hf:vM i k n with
   | false =>
    rw [hf] at hq
    obtain ⟨rfl,rfl,m,rfl,_,h1⟩:=xCs hq hv
    rw [int_of hu,← h1]
    exact ⟨zM (fun hx=>by cases hx.1) (fun xs ys hx _=>by cases hx),zL.2.2.2.2.1,zL.2.2.2.2.2⟩
   | true =>
    rw [hf] at hq; cases hq
    obtain ⟨rfl,m,rfl,_,h1,_⟩:=xCu hf hv
    rw [int_of hu,← h1]
    exact ⟨zM (fun hx=>by cases hx.1) (fun xs ys hx _=>by cases hx),zL.2.2.2.2.1,zL.2.2.2.2.2⟩
  ·simp only [VR] at hu hv
   obtain ⟨p,rfl,rfl⟩:=hu
   obtain ⟨p',rfl,rfl⟩:=hv
   cases hq
   rw [qJ]
   exact ⟨zM (fun hx=>by cases hx.1) (fun xs ys hx _=>by cases hx),jW.1,jW.2.1⟩
  ·rename_i p i
   cases hf:dL i p with
   | false=>rw [hf] at hq; cases hq
   | true =>
    rw [hf] at hq; cases hq
    obtain ⟨y,rfl,h1,_⟩:=xCz hf hv
    simp only [VR] at hu
    obtain ⟨x,rfl,rfl⟩:=hu
    rw [← h1,qJ]
    exact ⟨zM (fun hx=>by cases hx.1) (fun xs ys hx _=>by cases hx),jW.1,jW.2.1⟩
  ·rename_i i k n
   cases hf:vM i k n with
   | false =>
    rw [hf] at hq
    obtain ⟨rfl,rfl,m,rfl,h1,_⟩:=xCs hq hu
    rw [int_of hv,← h1]
    exact ⟨zM (fun hx=>by cases hx.1) (fun xs ys hx _=>by cases hx),zL.2.2.2.2.1,zL.2.2.2.2.2⟩
   | true =>
    rw [hf] at hq; cases hq
    obtain ⟨rfl,m,rfl,h1,_,_⟩:=xCu hf hu
    rw [int_of hv,← h1]
    exact ⟨zM (fun hx=>by cases hx.1) (fun xs ys hx _=>by cases hx),zL.2.2.2.2.1,zL.2.2.2.2.2⟩
  ·rename_i i p
   cases hf:dL i p with
   | false=>rw [hf] at hq; cases hq
   | true =>
    rw [hf] at hq; cases hq
    obtain ⟨x,rfl,_,h1⟩:=xCz hf hu
    simp only [VR] at hv
    obtain ⟨y,rfl,rfl⟩:=hv
    rw [← h1,qJ]
    exact ⟨zM (fun hx=>by cases hx.1) (fun xs ys hx _=>by cases hx),jW.1,jW.2.1⟩
  ·rename_i i j
   cases hb:mV i&&Nat.beq i j with
   | true =>
    rw [hb] at hq; cases hq
    rw [Bool.and_eq_true] at hb
    have e:=Nat.eq_of_beq_eq_true hb.2
    subst e
    simp only [VR] at hu hv
    obtain ⟨m,_,rfl,rfl⟩:=Env.big hb.1 hu hv
    have e:true=(m==m):=by simp
    rw [e]
    exact ⟨zM (fun hx=>by cases hx.1) (fun xs ys hx _=>by cases hx),zL.2.2.2.2.1,zL.2.2.2.2.2⟩
   | false =>
    rw [hb] at hq
    simp only [cond_false] at hq
    cases ha:vD i j with
    | true =>
     rw [ha] at hq
     obtain ⟨m,n,rfl,rfl,hd⟩:=xR4 ha hu hv
     simp only [cond_true,Option.some.injEq] at hq
     rw [← hq,← hd]
     exact ⟨zM (fun hx=>by cases hx.1) (fun xs ys hx _=>by cases hx),zL.2.2.2.2.1,zL.2.2.2.2.2⟩
    | false =>
    rw [ha] at hq
    simp only [VR] at hu hv
    obtain ⟨x,y,rfl,rfl,h1⟩:∃ x y:ByteArray,u=.string x∧v=.string y∧eqS (xP x) (xP y)=q:=by
     simp only [cond_false,yO1] at hq
     cases h2:Nat.beq (pR i j) 2 with
     | true =>
      rw [h2] at hq; cases hq
      have e:=Nat.eq_of_beq_eq_true h2
      obtain ⟨x,y,h3,h4,h5⟩:=Env.ord (by omega) hu hv
      exact ⟨x,y,h3,h4,qC.2 (h5.2.1 e)⟩
     | false =>
      rw [h2] at hq
      simp only [cond_false] at hq
      cases h1:Nat.beq (pR i j) 1 with
      | true =>
       rw [h1] at hq; cases hq
       have e:=Nat.eq_of_beq_eq_true h1
       obtain ⟨x,y,h3,h4,h5⟩:=Env.ord (by omega) hu hv
       refine ⟨x,y,h3,h4,?_⟩
       cases hb:eqS (xP x) (xP y) with
       | false=>rfl
       | true=>have:=h5.1 e; rw [qC.1 hb,xI1] at this; cases this
      | false =>
       rw [h1] at hq
       cases h1':Nat.beq (pR j i) 1 with
       | false=>rw [h1'] at hq; cases hq
       | true =>
        rw [h1'] at hq; cases hq
        have e:=Nat.eq_of_beq_eq_true h1'
        obtain ⟨y,x,h3,h4,h5⟩:=Env.ord (by omega) hv hu
        refine ⟨x,y,h4,h3,?_⟩
        cases hb:eqS (xP x) (xP y) with
        | false=>rfl
        | true=>have:=h5.1 e; rw [qC.1 hb,xI1] at this; cases this
    subst h1
    rw [qJ]
    exact ⟨zM (fun hx=>by cases hx.1) (fun xs ys hx _=>by cases hx),jW.1,jW.2.1⟩
 have agg:∀ ks,P.eqGuardType P.depth t=false→(∀ (ax ay:Array Value) (xs ys:List AV),VRs w ρ L xs ax.toList→VRs w ρ L ys ay.toList→xs.length=ks.length→ys.length=ks.length→wB ks xs ys=some q→(Op.equalIn 10000 t (.agg ax) (.agg ay)).run P w=.ok q w)→e=.flat ks →
   (eqGuard op t x y u v).run P w=.ok () w∧((binOp .eql t u v).run P w=.ok (.bool q) w∧(binOp .neq t u v).run P w=.ok (.bool (!q)) w):=by
  intro ks hg hf e1; subst e1
  cases a<;>cases b<;>simp only [zG,reduceCtorEq] at hq
  rename_i xs ys
  cases hl:(Nat.beq xs.length ks.length&&Nat.beq ys.length ks.length) with
  | false=>rw [hl] at hq; cases hq
  | true =>
   rw [hl] at hq
   simp only [Bool.and_eq_true] at hl
   simp only [VR] at hu hv
   obtain ⟨au,rfl,hu⟩:=hu
   obtain ⟨av,rfl,hv⟩:=hv
   exact ⟨zM (fun hx=>by cases hx.1) (fun _ _ _ _=>hg),xF6 rfl (hf _ _ xs ys hu hv (Nat.eq_of_beq_eq_true hl.1) (Nat.eq_of_beq_eq_true hl.2) hq)⟩
 unfold xWw at heq
 cases hd:P.underlying t with
 | none=>rw [hd] at heq; cases heq
 | some D =>
  rw [hd] at heq
  cases D<;>simp only [reduceCtorEq] at heq
  case bool =>
   cases heq
   cases a<;>cases b<;>simp only [zG,reduceCtorEq] at hq
   cases hq
   rw [gA hu,gA hv]
   rw [gA hu,gA hv] at easy
   exact easy (by simp) (by simp) rfl (run_equalIn_bool' w 9999 t _ _ hd)
  case int=>cases heq; exact numstr rfl
  case string=>cases heq; exact numstr rfl
  case pointer el =>
   cases heq
   have run:∀ (D:Nat) p p',(p=none∨p'=none)→(Op.equalIn (D+1) t (.pointer p) (.pointer p')).run P w=.ok (p.isNone&&p'.isNone) w:=by
    intro D p p' hp
    simp only [Op.equalIn,Sem.run_bind,run_underlying hd w,Result.andThen_ok]
    rcases hp with rfl | rfl
    ·simp
    ·cases p<;>simp
   cases a<;>cases b<;>simp only [zG,reduceCtorEq] at hq<;>cases hq<;>simp only [VR] at hu hv
   ·subst hu; subst hv; exact easy (by simp) (by simp) rfl (run 9999 none none (.inl rfl))
   ·subst hu; obtain ⟨b',_,rfl⟩:=hv; exact easy (by simp) (by simp) rfl (run 9999 none _ (.inl rfl))
   ·subst hu; obtain ⟨_,_,_,_,_,rfl,_⟩:=hv; exact easy (by simp) (by simp) rfl (run 9999 none _ (.inl rfl))
   ·subst hv; obtain ⟨b',_,rfl⟩:=hu; exact easy (by simp) (by simp) rfl (run 9999 _ none (.inr rfl))
   ·subst hv; obtain ⟨_,_,_,_,_,rfl,_⟩:=hu; exact easy (by simp) (by simp) rfl (run 9999 _ none (.inr rfl))
  case slice el =>
   cases heq
   have run:∀ (D:Nat) p n m p' n' m',(p=none∨p'=none)→(Op.equalIn (D+1) t (.slice p n m) (.slice p' n' m')).run P w=.ok (p.isNone&&p'.isNone) w:=by
    intro D p n m p' n' m' hp
    simp only [Op.equalIn,Sem.run_bind,run_underlying hd w,Result.andThen_ok]
    rcases hp with rfl | rfl
    ·simp
    ·cases p<;>simp
   cases a<;>cases b<;>simp only [zG,reduceCtorEq] at hq
   ·cases hq; simp only [VR] at hu hv
    subst hu; subst hv; exact easy (by simp) (by simp) rfl (run 9999 none _ _ none _ _ (.inl rfl))
   ·cases hq; simp only [VR] at hu hv
    subst hu; obtain ⟨_,_,_,rfl,_⟩:=hv; exact easy (by simp) (by simp) rfl (run 9999 none _ _ _ _ _ (.inl rfl))
   ·cases hq; simp only [VR] at hu hv
    subst hu; obtain ⟨a,_,rfl,_,h3⟩:=hv
    have ha:a.isNone=false:=by
     rcases h3 with ⟨_,h3⟩ | ⟨_,_,_,_,_,rfl,_⟩
     ·cases a<;>simp at h3 ⊢
     ·rfl
    have:=fun n m=>run 9999 none 0 0 a n m (.inl rfl)
    simp only [ha,Bool.and_false] at this
    exact easy (by simp) (by simp) rfl (this _ _)
   ·cases hq; simp only [VR] at hu hv
    subst hv; obtain ⟨_,_,_,rfl,_⟩:=hu; exact easy (by simp) (by simp) rfl (run 9999 _ _ _ none _ _ (.inr rfl))
   ·cases hq; simp only [VR] at hu hv
    subst hv; obtain ⟨a,_,rfl,_,h3⟩:=hu
    have ha:a.isNone=false:=by
     rcases h3 with ⟨_,h3⟩ | ⟨_,_,_,_,_,rfl,_⟩
     ·cases a<;>simp at h3 ⊢
     ·rfl
    have:=fun n m=>run 9999 a n m none 0 0 (.inr rfl)
    simp only [ha,Bool.false_and] at this
    exact easy (by simp) (by simp) rfl (this _ _)
  case map kt et =>
   cases heq
   have run:∀ (D:Nat) p p',(p=none∨p'=none)→(Op.equalIn (D+1) t (.map p) (.map p')).run P w=.ok (p.isNone&&p'.isNone) w:=by
    intro D p p' hp
    simp only [Op.equalIn,Sem.run_bind,run_underlying hd w,Result.andThen_ok]
    rcases hp with rfl | rfl
    ·simp
    ·cases p<;>simp
   cases a<;>cases b<;>simp only [zG,reduceCtorEq] at hq<;>cases hq<;>simp only [VR] at hu hv
   ·subst hu; subst hv; exact easy (by simp) (by simp) rfl (run 9999 none none (.inl rfl))
   ·subst hu; obtain ⟨b',_,rfl⟩:=hv; exact easy (by simp) (by simp) rfl (run 9999 none _ (.inl rfl))
   ·subst hv; obtain ⟨b',_,rfl⟩:=hu; exact easy (by simp) (by simp) rfl (run 9999 _ none (.inr rfl))
  case func ps rs vr =>
   cases heq
   have runl:∀ (D:Nat) v,(v=.nilFunc∨∃ f p q,v=.func f p q)→(Op.equalIn (D+1) t .nilFunc v).run P w=.ok (v matches .nilFunc) w:=by
    intro D v hv
    simp only [Op.equalIn,Sem.run_bind,run_underlying hd w,Result.andThen_ok]
    rcases hv with rfl | ⟨f,p,q,rfl⟩<;>simp
   have runr:∀ (D:Nat) f p q,(Op.equalIn (D+1) t (.func f p q) .nilFunc).run P w=.ok false w:=by
    intro D f p q
    simp only [Op.equalIn,Sem.run_bind,run_underlying hd w,Result.andThen_ok,Sem.run_pure]
   cases a<;>cases b<;>simp only [zG,reduceCtorEq] at hq<;>cases hq<;>simp only [VR] at hu hv
   ·subst hu; subst hv; exact easy (by simp) (by simp) rfl (runl 9999 _ (.inl rfl))
   ·subst hu; obtain ⟨_,_,rfl,_⟩:=hv; exact easy (by simp) (by simp) rfl (runl 9999 _ (.inr ⟨_,_,_,rfl⟩))
   ·subst hu; obtain ⟨_,_,rfl⟩:=hv; exact easy (by simp) (by simp) rfl (runl 9999 _ (.inr ⟨_,_,_,rfl⟩))
   ·subst hv; obtain ⟨_,_,rfl,_⟩:=hu; exact easy (by simp) (by simp) rfl (runr 9999 _ _ _)
   ·subst hv; obtain ⟨_,_,rfl⟩:=hu; exact easy (by simp) (by simp) rfl (runr 9999 _ _ _)
  case interface ms =>
   have hc:e=.ifc∧((∃ v,x=.const v)∨(∃ v,y=.const v)):=by
    split at heq
    ·rename_i hcc
     cases heq
     refine ⟨rfl,?_⟩
     cases x<;>cases y<;>simp [isC] at hcc ⊢
    ·cases heq
   obtain ⟨rfl,hc⟩:=hc
   have run1:∀ D:Nat,(Op.equalIn (D+1) t .nilIface .nilIface).run P w=.ok true w:=by
    intro D
    simp only [Op.equalIn,Sem.run_bind,run_underlying hd w,Result.andThen_ok,Sem.run_pure]
   have run2:∀ (D:Nat) s z,(Op.equalIn (D+1) t .nilIface (.iface s z)).run P w=.ok false w:=by
    intro D s z; simp only [Op.equalIn,Sem.run_bind,run_underlying hd w,Result.andThen_ok,Sem.run_pure]
   have run3:∀ (D:Nat) s z,(Op.equalIn (D+1) t (.iface s z) .nilIface).run P w=.ok false w:=by
    intro D s z; simp only [Op.equalIn,Sem.run_bind,run_underlying hd w,Result.andThen_ok,Sem.run_pure]
   cases a<;>cases b<;>simp only [zG,reduceCtorEq] at hq<;>cases hq<;>simp only [VR] at hu hv
   ·subst hu; subst hv
    exact ⟨xGo hc,xF6 rfl (run1 9999)⟩
   ·subst hu; obtain ⟨_,rfl,_⟩:=hv; exact easy (by simp) (by simp) rfl (run2 9999 _ _)
   ·subst hv; obtain ⟨_,rfl,_⟩:=hu; exact easy (by simp) (by simp) rfl (run3 9999 _ _)
  case struct fs =>
   split at heq
   ·cases heq
   ·rename_i hg
    simp only [Option.map_eq_some_iff] at heq
    obtain ⟨ks,hk,e1⟩:=heq
    refine agg ks (by simpa using hg) (fun ax ay xs ys hx hy l1 l2 hq' => ?_) e1.symm
    have rep:∀ {arr:Array Value} {zs:List AV},VRs w ρ L zs arr.toList→Rep P w ρ L t (.agg arr) zs:=by
     intro arr zs hz
     unfold Rep; rw [hd]
     exact ⟨arr,rfl,hz⟩
    exact bU 10 10000 t ks hk (by omega) _ _ xs ys q (rep hx) (rep hy) l1 l2 hq'
  case array n el =>
   split at heq
   ·cases heq
   ·rename_i hg
    simp only [Option.map_eq_some_iff] at heq
    obtain ⟨ks,hk,e1⟩:=heq
    exact agg ks (by simpa using hg) (fun ax ay xs ys hx hy l1 l2 hq'=>xP9 (D:=9999) hd hk (by omega) hx hy l1 l2 hq') e1.symm
end
end Go.Abs
end
end
