/- A part of the proof that LibSwaps answers true at every input: AbsRead9, AbsMake, AbsChain. -/
import Derived.Test.YtaendaokfclnoaaGreatDoorC07
import Derived.Laws.IdiomStrings
noncomputable section
section
namespace Go.Abs
variable [envI:Env]
section
variable {P:Program} {X:Ctx} {ρ:Nm} {h:H} {w:World} {L:Nat→Prop} {fr:Tr AV} {a:Act}
omit envI in
theorem xA0 {b:Builtin} {args:Array Operand} {argTypes:Array TypeId} {o:Oper} (ho:o.op=.call ⟨.builtin b,args,argTypes⟩) :
  (execOp a.eval o).run P w=(builtin b argTypes o.type (args.map fun | .const _=>true | _=>false) (args.map a.eval)).run P w:=by
 simp only [execOp,ho,resolve,Sem.run_bind,Sem.run_pure,Result.andThen_ok,invoke]
 rfl
omit envI in
theorem xTp {src dst:TypeId} {k:ConvK} (e:xRh P src dst=some k) :
  (∃ j i,P.underlying src=some (.int i)∧P.underlying dst=some (.int j)∧k=.int j)∨(P.underlying src=some .string∧P.underlying dst=some .string∧k=.same) ∨
  (∃ el,P.underlying src=some (.slice el)∧P.underlying dst=some .string∧P.underlying el=some (.int .u8)∧k=.ofBytes):=by
 unfold xRh at e
 split at e
 ·rename_i i j h1 h2; cases e; exact .inl ⟨_,_,h1,h2,rfl⟩
 ·rename_i h1 h2; cases e; exact .inr (.inl ⟨h1,h2,rfl⟩)
 ·rename_i el h1 h2
  split at e
  ·rename_i h3; cases e; exact .inr (.inr ⟨el,h1,h2,h3,rfl⟩)
  ·cases e
 ·cases e
theorem zFe {src dst:TypeId} {k:ConvK} (hk:xRh P src dst=some k) (hr:HR P X ρ h w) {v1 r:AV} {x:Value} (hx:VR w ρ (Lv ρ h) v1 x) (e:(vH h k v1).map (·.1)=some r) :
  ∃ v,(convert src dst x).run P w=.ok v w∧VR w ρ (Lv ρ h) r v:=by
 rcases xTp hk with ⟨j,i,h1,h2,rfl⟩ | ⟨h1,h2,rfl⟩ | ⟨el,h1,h2,h3,rfl⟩
 ·cases v1<;>simp only [vH,Option.map_none,Option.map_some,reduceCtorEq,Option.some.injEq] at e
  subst e
  rw [int_of hx,jK]
  exact wD (by simp [convert,run_underlying h1 w,run_underlying h2 w,Conv.intToInt])
 ·cases v1<;>simp only [vH,Option.map_none,Option.map_some,reduceCtorEq,Option.some.injEq] at e
  subst e
  refine ⟨x,?_,hx⟩
  simp only [VR] at hx
  obtain ⟨s,rfl,_⟩:=hx
  simp [convert,run_underlying h1 w,run_underlying h2 w]
 ·exact xKk h1 h2 h3 hr hx e
set_option maxHeartbeats 4000000 in
theorem zB0 {o:Oper} {aop:AOp} {os:List Opd} {vs:List AV} {r:AV} (hc:qO P o.type o.op=some (aop,os)) (he:xE X fr os=some vs) (hr:HR P X ρ h w) (hf:FR w ρ (Lv ρ h) fr a.tmps)
  (e:xM h aop vs=some r):∃ v,(execOp a.eval o).run P w=.ok (.value v) w∧VR w ρ (Lv ρ h) r v:=by
 obtain ⟨dst,op,type,pos,after,guard⟩:=o
 cases op<;>simp only [qO,Option.bind_eq_bind,Option.bind_eq_some_iff,Option.pure_def,Option.some.injEq,Prod.mk.injEq,reduceCtorEq] at hc
 case move x =>
  obtain ⟨x1,hx,rfl,rfl⟩:=hc
  obtain ⟨v1,rfl,e1⟩:=ev1 he
  simp only [xM,Option.some.injEq] at e; subst e
  exact ⟨_,by simp only [execOp,Sem.run_pure],zC hr hf hx e1⟩
 case assign x =>
  obtain ⟨x1,hx,rfl,rfl⟩:=hc
  obtain ⟨v1,rfl,e1⟩:=ev1 he
  simp only [xM,Option.some.injEq] at e; subst e
  exact ⟨_,by simp only [execOp,Sem.run_pure],zC hr hf hx e1⟩
 case pick c x y =>
  obtain ⟨c1,hc1,x1,hx,y1,hy,rfl,rfl⟩:=hc
  obtain ⟨v1,v2,v3,rfl,e1,e2,e3⟩:=ev3 he
  cases v1<;>simp only [xM,reduceCtorEq,Option.some.injEq] at e
  rename_i b
  subst e
  have hb:=gA (zC hr hf hc1 e1)
  refine ⟨if b then a.eval x else a.eval y,by simp only [execOp,hb,asBool,Sem.run_bind,Sem.run_pure,Result.andThen_ok],?_⟩
  cases b
  ·exact zC hr hf hy e3
  ·exact zC hr hf hx e2
 case alloc t =>
  obtain ⟨_,_,rfl,rfl⟩:=hc
  have hv:=ev0 he; subst hv
  simp [xM] at e
 case box t x =>
  obtain ⟨_,_,rfl,rfl⟩:=hc
  obtain ⟨v1,rfl,e1⟩:=ev1 he
  simp only [xM,reduceCtorEq] at e
 case build t ps =>
  obtain ⟨⟨parts,os'⟩,hp,z,hz,rfl,rfl⟩:=hc
  simp only [xM] at e
  have hops:ps.toList.mapM (fun p=>opd p.2)=some os':=by
   unfold partsOf at hp
   split at hp
   ·cases hp
   ·simp only [Option.bind_eq_bind,Option.bind_eq_some_iff,Option.pure_def,Option.some.injEq,Prod.mk.injEq] at hp
    obtain ⟨_,_,_,h2,_,rfl⟩:=hp
    exact h2
  have hops':(ps.toList.map (·.2)).mapM opd=some os':=by rw [List.mapM_map]; exact hops
  have hv:=pH hr hf hops' he
  obtain ⟨v,h1,h2⟩:=xY0 hz hp hv (by simp) e
  refine ⟨v,?_,h2⟩
  simp only [execOp]
  refine wX ?_
  have:(ps.map fun (i,x)=>(i,a.eval x))=((ps.toList.map (·.1)).zip ((ps.toList.map (·.2)).map a.eval)).toArray:=by
   apply Array.ext'
   simp [List.zip_map',List.map_map]
  rw [this]; exact h1
 case buildSlice t n ps =>
  split at hc<;>first | (cases hc; done) | skip
  simp only [Option.bind_eq_some_iff] at hc
  obtain ⟨_,_,_,_,hc⟩:=hc
  split at hc<;>first | (cases hc; done) | skip
  simp only [Option.some.injEq,Prod.mk.injEq] at hc
  obtain ⟨rfl,rfl⟩:=hc
  simp only [xM,reduceCtorEq] at e
 case load t x =>
  obtain ⟨n,hn,x1,hx,rfl,rfl⟩:=hc
  obtain ⟨v1,rfl,e1⟩:=ev1 he
  simp only [xM] at e
  obtain ⟨v,h1,h2⟩:=xQo hn hr (zC hr hf hx e1) e
  exact ⟨v,by simp only [execOp]; exact wX h1,h2⟩
 case store t x y =>
  obtain ⟨n,hn,x1,hx,y1,hy,rfl,rfl⟩:=hc
  obtain ⟨v1,v2,rfl,e1,e2⟩:=ev2 he
  simp only [xM,reduceCtorEq] at e
 case nilCheck x =>
  obtain ⟨x1,hx,rfl,rfl⟩:=hc
  obtain ⟨v1,rfl,e1⟩:=ev1 he
  have hv:=zC hr hf hx e1
  refine ⟨a.eval x,?_,?_⟩
  ·simp only [execOp]
   cases v1<;>simp only [xM,reduceCtorEq] at e<;>simp only [VR] at hv
   ·obtain ⟨_,_,hv⟩:=hv; rw [hv]; rfl
   ·obtain ⟨_,_,_,_,_,hv,_⟩:=hv; rw [hv]; rfl
   ·obtain ⟨_,_,hv,_⟩:=hv; rw [hv]; rfl
   ·obtain ⟨_,_,hv⟩:=hv; rw [hv]; rfl
   ·obtain ⟨_,hv,_⟩:=hv; rw [hv]; rfl
  ·have:r=v1:=by cases v1<;>simp only [xM,reduceCtorEq,Option.some.injEq] at e<;>exact e.symm
   rw [this]; exact hv
 case binOp bop t x y yt =>
  obtain ⟨k,hk,x1,hx,y1,hy,rfl,rfl⟩:=hc
  obtain ⟨v1,v2,rfl,e1,e2⟩:=ev2 he
  simp only [xM] at e
  have h1:=zC hr hf hx e1
  have h2:=zC hr hf hy e2
  by_cases hop:bop=.eql∨bop=.neq
  ·obtain ⟨z,g1,g2⟩:=zZt hop hk h1 h2 e
   exact ⟨z,by simp only [execOp]; exact wX g1,g2⟩
  ·have hk1 : k=.one:=by
    cases bop<;>simp only [yDv,Option.some.injEq] at hk<;>first | exact hk.symm | (exact absurd (.inl rfl) hop) | (exact absurd (.inr rfl) hop)
   subst hk1
   have hg:∀ u v,(eqGuard bop t x y u v).run P w=.ok () w:=by
    intro u v
    unfold eqGuard
    cases bop<;>first | (exact absurd (.inl rfl) hop) | (exact absurd (.inr rfl) hop) | rfl
   have kind:(∃ j m k n,v1=.int j m∧v2=.int k n)∨(∃ s s',v1=.str s∧v2=.str s')∨(∃ i j,v1=.sym i∧v2=.sym j)∨(∃ i k n,v1=.sym i∧v2=.int k n)∨(∃ i k n,v1=.int k n∧v2=.sym i):=by
    cases bop<;>first
     | (exact absurd (.inl rfl) hop)
     | (exact absurd (.inr rfl) hop)
     | (cases v1<;>cases v2<;>first
       | (simp only [xG,reduceCtorEq] at e; done)
       | exact .inl ⟨_,_,_,_,rfl,rfl⟩
       | exact .inr (.inl ⟨_,_,rfl,rfl⟩)
       | exact .inr (.inr (.inl ⟨_,_,rfl,rfl⟩))
       | exact .inr (.inr (.inr (.inl ⟨_,_,_,rfl,rfl⟩)))
       | exact .inr (.inr (.inr (.inr ⟨_,_,_,rfl,rfl⟩))))
   rcases kind with ⟨j,m,k,n,rfl,rfl⟩ | ⟨s,s',rfl,rfl⟩ | ⟨i,j,rfl,rfl⟩ | ⟨i,k,n,rfl,rfl⟩ | ⟨i,k,n,rfl,rfl⟩
   ·obtain ⟨z,g1,g2⟩:=xSn (P:=P) (w:=w) (ρ:=ρ) (L:=Lv ρ h) (t:=t) e
    rw [← int_of h1,← int_of h2] at g1
    exact ⟨z,by simp only [execOp]; exact wX (by rw [Sem.run_bind,hg]; exact g1),g2⟩
   ·simp only [VR] at h1 h2
    obtain ⟨p,h1,rfl⟩:=h1
    obtain ⟨q,h2,rfl⟩:=h2
    obtain ⟨z,g1,g2⟩:=xSo (P:=P) (w:=w) (ρ:=ρ) (L:=Lv ρ h) (t:=t) e
    rw [← h1,← h2] at g1
    exact ⟨z,by simp only [execOp]; exact wX (by rw [Sem.run_bind,hg]; exact g1),g2⟩
   ·simp only [VR] at h1 h2
    obtain ⟨z,g1,g2⟩:=xSp (P:=P) (t:=t) hop h1 h2 e
    exact ⟨z,by simp only [execOp]; exact wX (by rw [Sem.run_bind,hg]; exact g1),g2⟩
   ·have h3:=int_of h2
    simp only [VR] at h1
    obtain ⟨z,g1,g2⟩:=(xGm (P:=P) (t:=t) (k:=k) (n:=n) hop h1).1 _ e
    rw [← h3] at g1
    exact ⟨z,by simp only [execOp]; exact wX (by rw [Sem.run_bind,hg]; exact g1),g2⟩
   ·have h3:=int_of h1
    simp only [VR] at h2
    obtain ⟨z,g1,g2⟩:=(xGm (P:=P) (t:=t) (k:=k) (n:=n) hop h2).2 _ e
    rw [← h3] at g1
    exact ⟨z,by simp only [execOp]; exact wX (by rw [Sem.run_bind,hg]; exact g1),g2⟩
 case unOp uop t x =>
  obtain ⟨x1,hx,rfl,rfl⟩:=hc
  obtain ⟨v1,rfl,e1⟩:=ev1 he
  obtain ⟨v,h1,h2⟩:=zZu (zC hr hf hx e1) e
  exact ⟨v,by simp only [execOp]; exact wX h1,h2⟩
 case convert src dst' x =>
  split at hc
  ·split at hc
   ·simp only [Option.bind_eq_some_iff,Option.some.injEq,Prod.mk.injEq] at hc
    obtain ⟨x1,hx,rfl,rfl⟩:=hc
    obtain ⟨v1,rfl,e1⟩:=ev1 he
    simp only [xM,reduceCtorEq] at e
   ·cases hc
  ·simp only [Option.bind_eq_some_iff,Option.some.injEq,Prod.mk.injEq] at hc
   obtain ⟨k,hk,x1,hx,rfl,rfl⟩:=hc
   obtain ⟨v1,rfl,e1⟩:=ev1 he
   simp only [xM] at e
   obtain ⟨v,h1,h2⟩:=zFe hk hr (zC hr hf hx e1) e
   exact ⟨v,by simp only [execOp]; exact wX h1,h2⟩
 case makeInterface t x =>
  split at hc<;>first | (cases hc; done) | skip
  rename_i D hni hD
  simp only [Option.bind_eq_some_iff,Option.some.injEq,Prod.mk.injEq] at hc
  obtain ⟨x1,hx,rfl,rfl⟩:=hc
  obtain ⟨v1,rfl,e1⟩:=ev1 he
  simp only [xM,Option.some.injEq] at e; subst e
  refine ⟨.iface t (a.eval x),?_,by simp only [VR]; exact ⟨_,rfl,zC hr hf hx e1⟩⟩
  simp only [execOp]
  refine wX ?_
  simp only [Instr.makeInterface,Sem.run_bind,run_underlying hD w,Result.andThen_ok]
  cases D<;>first | (exact absurd rfl (hni _)) | rfl
 case makeFunc fn first caught =>
  cases fn<;>simp only [reduceCtorEq,Option.bind_eq_some_iff,Option.some.injEq,Prod.mk.injEq] at hc
  rename_i f
  obtain ⟨l1,h1,l2,h2,rfl,rfl⟩:=hc
  simp only [xM,Option.some.injEq] at e; subst e
  have hall:(first.toList++caught.toList).mapM opd=some (l1++l2):=by
   rw [List.mapM_append,h1,h2]; rfl
  have hv:=pH hr hf hall he
  have hl1:l1.length=first.toList.length:=by
   clear hv hall he
   generalize first.toList=l at h1
   induction l generalizing l1 with
   | nil=>simp at h1; subst h1; rfl
   | cons x l ih =>
    simp only [List.mapM_cons,Option.bind_eq_bind,Option.bind_eq_some_iff,Option.pure_def,Option.some.injEq] at h1
    obtain ⟨_,_,l',h3,rfl⟩:=h1
    simp [ih _ h3]
  refine ⟨.func (.func f) (first.map a.eval) (caught.map a.eval),by simp only [execOp,Instr.makeFunc]; exact wX rfl,?_⟩
  simp only [VR]
  refine ⟨_,_,by rw [mW],?_,?_⟩
  ·have:=hv.take l1.length
   rw [hl1] at this ⊢
   simpa [List.map_append,List.take_append] using this
  ·have:=hv.drop l1.length
   rw [hl1] at this ⊢
   simpa [List.map_append,List.drop_append] using this
 case makeMap t rsv =>
  cases rsv<;>simp only [reduceCtorEq,Option.some.injEq,Prod.mk.injEq] at hc
  obtain ⟨rfl,rfl⟩:=hc
  have hv:=ev0 he; subst hv
  simp [xM] at e
 case makeSlice t l c =>
  split at hc<;>first | (cases hc; done) | skip
  simp only [Option.bind_eq_some_iff] at hc
  obtain ⟨z,hz,hc⟩:=hc
  split at hc<;>first | (cases hc; done) | skip
  simp only [Option.bind_eq_some_iff,Option.some.injEq,Prod.mk.injEq] at hc
  obtain ⟨_,_,_,_,rfl,rfl⟩:=hc
  obtain ⟨v1,v2,rfl,e1,e2⟩:=ev2 he
  simp only [xM,reduceCtorEq] at e
 case slice t x lo hi mx =>
  have hc':∃ k as1,aop=.slice k lo.isSome hi.isSome mx.isSome∧os=as1∧(x::(xKf lo++xKf hi++xKf mx)).mapM opd=some as1 ∧
    ((P.underlying t=some .string∧mx=none∧k=.str)∨(∃ el n,P.underlying t=some (.slice el)∧mX P el=some n∧k=.slc (P.cellsOf el))∨(∃ m el n,P.underlying t=some (.array m el)∧mX P el=some n∧k=.arr m (P.cellsOf el))):=by
   split at hc
   ·rename_i ht
    split at hc
    ·simp at hc
    ·rename_i hmx
     simp only [Option.bind_some,Option.bind_eq_some_iff,Option.some.injEq,Prod.mk.injEq] at hc
     obtain ⟨as1,has,rfl,rfl⟩:=hc
     exact ⟨_,_,rfl,rfl,has,.inl ⟨ht,by simpa using hmx,rfl⟩⟩
   ·rename_i el ht
    simp only [Option.bind_some,Option.bind_eq_some_iff,Option.some.injEq,Prod.mk.injEq] at hc
    obtain ⟨n,hn,as1,has,rfl,rfl⟩:=hc
    exact ⟨_,_,rfl,rfl,has,.inr (.inl ⟨el,n,ht,hn,rfl⟩)⟩
   ·rename_i m el ht
    simp only [Option.bind_some,Option.bind_eq_some_iff,Option.some.injEq,Prod.mk.injEq] at hc
    obtain ⟨n,hn,as1,has,rfl,rfl⟩:=hc
    exact ⟨_,_,rfl,rfl,has,.inr (.inr ⟨m,el,n,ht,hn,rfl⟩)⟩
   ·simp at hc
  obtain ⟨k,as1,rfl,rfl,has,hk⟩:=hc'
  have hv:=pH hr hf has he
  simp only [List.map_cons] at hv
  obtain ⟨u,us,e0,hu,hus⟩:∃ u us,vs=u::us∧VR w ρ (Lv ρ h) u (a.eval x)∧VRs w ρ (Lv ρ h) us ((xKf lo++xKf hi++xKf mx).map a.eval):=by
   cases vs with
   | nil=>simp only [VRs] at hv; cases hv
   | cons u us =>
    obtain ⟨v,vs',e1,h1,h2⟩:=nE hv
    cases e1
    exact ⟨u,us,rfl,h1,h2⟩
  subst e0
  simp only [xM] at e
  have hargs:VRs w ρ (Lv ρ h) us ((lo.map a.eval).toList++(hi.map a.eval).toList++(mx.map a.eval).toList):=by
   have:(xKf lo++xKf hi++xKf mx).map a.eval=(lo.map a.eval).toList++(hi.map a.eval).toList++(mx.map a.eval).toList:=by
    cases lo<;>cases hi<;>cases mx<;>rfl
   rw [← this]; exact hus
  have es:∀ q:Option Operand,q.isSome=(q.map a.eval).isSome:=fun q=>by cases q<;>rfl
  rw [es lo,es hi,es mx] at e
  simp only [execOp]
  rcases hk with ⟨ht,rfl,rfl⟩ | ⟨el,n,ht,hn,rfl⟩ | ⟨m,el,n,ht,hn,rfl⟩
  ·simp only [Option.map_none,Option.toList_none,List.append_nil] at hargs
   obtain ⟨v,h1,h2⟩:=xO1 ht hu hargs e
   exact ⟨v,wX h1,h2⟩
  ·obtain ⟨v,h1,h2⟩:=xO0 ht hn hu hargs e
   exact ⟨v,wX h1,h2⟩
  ·obtain ⟨v,h1,h2⟩:=xNz ht hn hu hargs e
   exact ⟨v,wX h1,h2⟩
 case fieldAddr s x f =>
  split at hc<;>first | (cases hc; done) | skip
  rename_i fs hs
  split at hc<;>first | (cases hc; done) | skip
  rename_i fl hfl
  split at hc<;>first | (cases hc; done) | skip
  rename_i hz
  simp only [Option.bind_eq_some_iff,Option.some.injEq,Prod.mk.injEq] at hc
  obtain ⟨n,hn,x1,hx,rfl,rfl⟩:=hc
  obtain ⟨v1,rfl,e1⟩:=ev1 he
  obtain ⟨v,h1,h2⟩:=xNx hs hfl hz hn (zC hr hf hx e1) e
  exact ⟨v,by simp only [execOp]; exact wX h1,h2⟩
 case field s x f =>
  split at hc<;>first | (cases hc; done) | skip
  rename_i fs hs
  split at hc<;>first | (cases hc; done) | skip
  rename_i fl hfl
  simp only [Option.bind_eq_some_iff,Option.some.injEq,Prod.mk.injEq] at hc
  obtain ⟨n,hn,x1,hx,rfl,rfl⟩:=hc
  obtain ⟨v1,rfl,e1⟩:=ev1 he
  obtain ⟨v,h1,h2⟩:=xY1 hs hfl hn (zC hr hf hx e1) e
  exact ⟨v,by simp only [execOp]; exact wX h1,h2⟩
 case indexAddr t x i =>
  split at hc<;>first | (cases hc; done) | skip
  ·rename_i el ht
   simp only [Option.bind_eq_some_iff,Option.some.injEq,Prod.mk.injEq] at hc
   obtain ⟨n,hn,x1,hx,i1,hi,rfl,rfl⟩:=hc
   obtain ⟨v1,v2,rfl,e1,e2⟩:=ev2 he
   simp only [xM] at e
   obtain ⟨v,h1,h2⟩:=xP7 ht hn (zC hr hf hx e1) (zC hr hf hi e2) e
   exact ⟨v,by simp only [execOp]; exact wX h1,h2⟩
  ·rename_i m el ht
   simp only [Option.bind_eq_some_iff,Option.some.injEq,Prod.mk.injEq] at hc
   obtain ⟨n,hn,x1,hx,i1,hi,rfl,rfl⟩:=hc
   obtain ⟨v1,v2,rfl,e1,e2⟩:=ev2 he
   simp only [xM] at e
   obtain ⟨v,h1,h2⟩:=xP6 ht hn (zC hr hf hx e1) (zC hr hf hi e2) e
   exact ⟨v,by simp only [execOp]; exact wX h1,h2⟩
 case index t x i =>
  split at hc<;>first | (cases hc; done) | skip
  ·rename_i m el ht
   simp only [Option.bind_eq_some_iff,Option.some.injEq,Prod.mk.injEq] at hc
   obtain ⟨n,hn,x1,hx,i1,hi,rfl,rfl⟩:=hc
   obtain ⟨v1,v2,rfl,e1,e2⟩:=ev2 he
   obtain ⟨v,h1,h2⟩:=xP5 ht hn (zC hr hf hx e1) (zC hr hf hi e2) e
   exact ⟨v,by simp only [execOp]; exact wX h1,h2⟩
  ·rename_i ht
   simp only [Option.bind_eq_some_iff,Option.some.injEq,Prod.mk.injEq] at hc
   obtain ⟨x1,hx,i1,hi,rfl,rfl⟩:=hc
   obtain ⟨v1,v2,rfl,e1,e2⟩:=ev2 he
   obtain ⟨v,h1,h2⟩:=xP8 ht (zC hr hf hx e1) (zC hr hf hi e2) e
   exact ⟨v,by simp only [execOp]; exact wX h1,h2⟩
 case lookup t x i ok =>
  split at hc<;>first | (cases hc; done) | skip
  rename_i kt et ht
  simp only [Option.bind_eq_some_iff,Option.some.injEq,Prod.mk.injEq] at hc
  obtain ⟨kn,hkn,z,hz,x1,hx,i1,hi,rfl,rfl⟩:=hc
  obtain ⟨v1,v2,rfl,e1,e2⟩:=ev2 he
  simp only [xM] at e
  obtain ⟨v,h1,h2⟩:=xVv ht hkn hz hr (zC hr hf hx e1) (zC hr hf hi e2) e
  exact ⟨v,by simp only [execOp]; exact wX h1,h2⟩
 case mapUpdate t m k x =>
  split at hc<;>first | (cases hc; done) | skip
  simp only [Option.bind_eq_some_iff,Option.some.injEq,Prod.mk.injEq] at hc
  obtain ⟨_,_,_,_,_,_,_,_,rfl,rfl⟩:=hc
  obtain ⟨v1,v2,v3,rfl,e1,e2,e3⟩:=ev3 he
  simp only [xM,reduceCtorEq] at e
 case insert t m k x =>
  split at hc<;>first | (cases hc; done) | skip
  simp only [Option.bind_eq_some_iff,Option.some.injEq,Prod.mk.injEq] at hc
  obtain ⟨_,_,_,_,_,_,_,_,rfl,rfl⟩:=hc
  obtain ⟨v1,v2,v3,rfl,e1,e2,e3⟩:=ev3 he
  simp only [xM,reduceCtorEq] at e
 case range t x =>
  split at hc<;>first | (cases hc; done) | skip
  all_goals
   simp only [Option.bind_eq_some_iff,Option.some.injEq,Prod.mk.injEq] at hc
   obtain ⟨_,_,rfl,rfl⟩:=hc
   obtain ⟨v1,rfl,e1⟩:=ev1 he
   simp only [xM,reduceCtorEq] at e
 case next it isStr =>
  obtain ⟨_,_,rfl,rfl⟩:=hc
  obtain ⟨v1,rfl,e1⟩:=ev1 he
  simp only [xM,reduceCtorEq] at e
 case entry it =>
  obtain ⟨_,_,rfl,rfl⟩:=hc
  obtain ⟨v1,rfl,e1⟩:=ev1 he
  simp only [xM,reduceCtorEq] at e
 case typeAssert x xt t ok =>
  split at hc<;>first | (cases hc; done) | skip
  rename_i D hni hD
  simp only [Option.bind_eq_some_iff,Option.some.injEq,Prod.mk.injEq] at hc
  obtain ⟨z,hz,x1,hx,rfl,rfl⟩:=hc
  obtain ⟨v1,rfl,e1⟩:=ev1 he
  obtain ⟨zv,hz1,hz2⟩:=pN hz
  have hx':=zC hr hf hx e1
  have fails:ok=true→∀ v,(∀ u y,v=.iface u y→u≠t)→(v=.nilIface∨∃ u y,v=.iface u y)→(Instr.typeAssert v xt t ok).run P w=.ok (.tuple #[zv,.bool false]) w:=by
   intro hok v h1 h2
   subst hok
   rcases h2 with rfl | ⟨u,y,rfl⟩
   ·simp only [Instr.typeAssert,Sem.run_bind,run_underlying hD w,Result.andThen_ok]
    cases D<;>first | (exact absurd rfl (hni _)) | simp [hz1]
   ·have hne:=h1 u y rfl
    simp only [Instr.typeAssert,Sem.run_bind,run_underlying hD w,Result.andThen_ok]
    cases D<;>first | (exact absurd rfl (hni _)) | simp [hz1,hne]
  have failed:VR w ρ (Lv ρ h) (.tup [z,.bool false]) (.tuple #[zv,.bool false]):=by
   simp only [VR]
   exact ⟨_,rfl,by simp only [VRs]; exact ⟨zv,_,rfl,hz2,_,_,rfl,by simp only [VR],rfl⟩⟩
  simp only [execOp]
  cases v1<;>simp only [xM,reduceCtorEq] at e
  ·cases ok<;>simp only [cond_true,cond_false,reduceCtorEq,Option.some.injEq] at e
   subst e
   have hn:a.eval x=.nilIface:=by simpa only [VR] using hx'
   exact ⟨_,wX (fails rfl _ (by rw [hn]; intro u y hh; cases hh) (.inl hn)),failed⟩
  ·rename_i u y
   simp only [VR] at hx'
   obtain ⟨y',hy',hy⟩:=hx'
   cases hb:Nat.beq u t with
   | true =>
    rw [hb] at e
    simp only [cond_true,Option.some.injEq] at e
    have hut:=Nat.eq_of_beq_eq_true hb
    subst hut
    have run:(Instr.typeAssert (a.eval x) xt u ok).run P w=.ok (if ok then .tuple #[y',.bool true] else y') w:=by
     rw [hy']
     simp only [Instr.typeAssert,Sem.run_bind,run_underlying hD w,Result.andThen_ok]
     cases D<;>first | (exact absurd rfl (hni _)) | simp
    refine ⟨_,wX run,?_⟩
    subst e
    cases ok
    ·exact hy
    ·simp only [VR,cond_true,if_true]
     exact ⟨_,rfl,by simp only [VRs]; exact ⟨y',_,rfl,hy,_,_,rfl,by simp only [VR],rfl⟩⟩
   | false =>
    rw [hb] at e
    have hne:u≠t:=fun hh=>by subst hh; simp at hb
    cases ok<;>simp only [cond_true,cond_false,reduceCtorEq,Option.some.injEq] at e
    subst e
    exact ⟨_,wX (fails rfl _ (by rw [hy']; intro u' y'' hh; cases hh; exact hne) (.inr ⟨u,y',hy'⟩)),failed⟩
 case extract x i =>
  obtain ⟨x1,hx,rfl,rfl⟩:=hc
  obtain ⟨v1,rfl,e1⟩:=ev1 he
  have hx':=zC hr hf hx e1
  cases v1<;>simp only [xM,reduceCtorEq] at e
  simp only [VR] at hx'
  obtain ⟨arr,harr,hvs⟩:=hx'
  obtain ⟨v,h1,h2⟩:=hvs.get e
  refine ⟨v,?_,h2⟩
  simp only [execOp]
  refine wX ?_
  rw [harr]
  simp only [Instr.extract]
  rw [Array.getElem?_toList] at h1
  rw [h1]; rfl
 case panic x =>
  obtain ⟨x1,hx,rfl,rfl⟩:=hc
  obtain ⟨v1,rfl,e1⟩:=ev1 he
  simp only [xM,reduceCtorEq] at e
 case defer c =>
  obtain ⟨callee,args,argTypes⟩:=c
  cases callee<;>simp only [reduceCtorEq,Option.bind_eq_some_iff,Option.some.injEq,Prod.mk.injEq] at hc
  obtain ⟨_,_,_,_,rfl,rfl⟩:=hc
  obtain ⟨v,vs',rfl,_,_⟩:=evc he
  cases vs'<;>simp only [xM,reduceCtorEq] at e
 case call c =>
  obtain ⟨callee,args,argTypes⟩:=c
  cases callee with
  | value f =>
   simp only [Option.bind_eq_some_iff,Option.some.injEq,Prod.mk.injEq] at hc
   obtain ⟨_,_,_,_,rfl,rfl⟩:=hc
   obtain ⟨v,vs',rfl,_,_⟩:=evc he
   cases vs'<;>simp only [xM,reduceCtorEq] at e
  | invoke rc nm =>
   simp only [Option.bind_eq_some_iff,Option.some.injEq,Prod.mk.injEq] at hc
   obtain ⟨_,_,_,_,rfl,rfl⟩:=hc
   obtain ⟨v,vs',rfl,_,_⟩:=evc he
   cases vs'<;>simp only [xM,reduceCtorEq] at e
  | builtin b =>
   simp only [Option.bind_eq_some_iff] at hc
   obtain ⟨as1,has,hc⟩:=hc
   have hv:as1=os→VRs w ρ (Lv ρ h) vs (args.toList.map a.eval):=fun e1=>pH hr hf (e1▸has) he
   have arg1:as1=os→∀ u,vs=[u]→∃ v,args.map a.eval = #[v]∧VR w ρ (Lv ρ h) u v:=by
    intro e1 u e2
    have:=hv e1
    rw [e2] at this
    obtain ⟨v,h1,h2⟩:=xCq this
    exact ⟨v,by apply Array.ext'; simpa using h1,h2⟩
   have run1:∀ {s:Sem Value} {v:Value},builtin b argTypes type (args.map fun | .const _=>true | _=>false) (args.map a.eval)=(do pure (Next.value (← s)))→s.run P w=.ok v w →
     (execOp a.eval ⟨dst,.call ⟨.builtin b,args,argTypes⟩,type,pos,after,guard⟩).run P w=.ok (.value v) w:=by
    intro s v h1 h2
    rw [xA0 (b:=b) (args:=args) (argTypes:=argTypes) rfl]
    rw [h1]; exact wX h2
   cases b<;>simp only [Option.some.injEq,Prod.mk.injEq,reduceCtorEq] at hc
   case append =>
    split at hc<;>first | (cases hc; done) | skip
    simp only [Option.bind_eq_some_iff] at hc
    obtain ⟨_,_,_,_,hc⟩:=hc
    split at hc<;>first | (cases hc; done) | skip
    simp only [Option.bind_eq_some_iff,Option.some.injEq,Prod.mk.injEq] at hc
    obtain ⟨_,_,rfl,rfl⟩:=hc
    rcases vs with _ | ⟨_,_ | ⟨_,_ | _⟩⟩<;>simp only [xM,reduceCtorEq] at e
   case copy =>
    split at hc<;>first | (cases hc; done) | skip
    simp only [Option.bind_eq_some_iff,Option.some.injEq,Prod.mk.injEq] at hc
    obtain ⟨_,_,rfl,rfl⟩:=hc
    rcases vs with _ | ⟨_,_ | ⟨_,_ | _⟩⟩<;>simp only [xM,reduceCtorEq] at e
   case recover =>
    obtain ⟨rfl,rfl⟩:=hc
    have hv':=ev0 he; subst hv'
    simp [xM] at e
   case len =>
    have kind:∃ k t,aop=.len k∧as1=os∧argTypes[0]?=some t∧((∃ n el,k=.fixed n∧(P.underlying t=some (.array n el)∨∃ p,P.underlying t=some (.pointer p)∧P.underlying p=some (.array n el)))∨(k=.str∧P.underlying t=some .string)∨(∃ el,k=.slc∧P.underlying t=some (.slice el))∨(∃ kt el,k=.map∧P.underlying t=some (.map kt el))):=by
     cases h0:argTypes[0]? with
     | none=>rw [h0] at hc; simp at hc
     | some t =>
      rw [h0] at hc
      simp only [Option.bind_some] at hc
      split at hc
      ·rename_i n el ht
       simp only [Option.some.injEq,Prod.mk.injEq] at hc
       exact ⟨_,t,hc.1.symm,hc.2,rfl,.inl ⟨n,el,rfl,.inl ht⟩⟩
      ·rename_i p ht
       split at hc
       ·rename_i n el hp
        simp only [Option.some.injEq,Prod.mk.injEq] at hc
        exact ⟨_,t,hc.1.symm,hc.2,rfl,.inl ⟨n,el,rfl,.inr ⟨p,ht,hp⟩⟩⟩
       ·cases hc
      ·rename_i ht
       simp only [Option.some.injEq,Prod.mk.injEq] at hc
       exact ⟨_,t,hc.1.symm,hc.2,rfl,.inr (.inl ⟨rfl,ht⟩)⟩
      ·rename_i el ht
       simp only [Option.some.injEq,Prod.mk.injEq] at hc
       exact ⟨_,t,hc.1.symm,hc.2,rfl,.inr (.inr (.inl ⟨el,rfl,ht⟩))⟩
      ·rename_i kt el ht
       simp only [Option.some.injEq,Prod.mk.injEq] at hc
       exact ⟨_,t,hc.1.symm,hc.2,rfl,.inr (.inr (.inr ⟨kt,el,rfl,ht⟩))⟩
      ·cases hc
    obtain ⟨k,t,rfl,e0,h0,hk⟩:=kind
    rcases vs with _ | ⟨u,_ | ⟨_,_⟩⟩<;>simp only [xM,reduceCtorEq] at e
    obtain ⟨v,hv1,hv2⟩:=arg1 e0 u rfl
    have res:∃ z,(Builtin.len_ argTypes type #[v]).run P w=.ok z w∧VR w ρ (Lv ρ h) r z:=by
     rcases hk with ⟨n,el,rfl,ht⟩ | ⟨rfl,ht⟩ | ⟨el,rfl,ht⟩ | ⟨kt,el,rfl,ht⟩
     ·have ht':(∃ el,P.underlying t=some (.array n el))∨(∃ p el,P.underlying t=some (.pointer p)∧P.underlying p=some (.array n el)):=by
       rcases ht with ht | ⟨p,h1,h2⟩
       ·exact .inl ⟨el,ht⟩
       ·exact .inr ⟨p,el,h1,h2⟩
      exact xNy h0 ht' (x:=u) (u:=v) e
     ·exact xSs h0 ht hv2 e
     ·exact xSr h0 ht hv2 e
     ·exact xSq h0 ht hr hv2 e
    obtain ⟨z,g1,g2⟩:=res
    exact ⟨z,run1 (by rw [hv1]; rfl) g1,g2⟩
   case cap =>
    have kind:∃ k t,aop=.cap k∧as1=os∧argTypes[0]?=some t∧((∃ n el,P.underlying t=some (.array n el)∧k=some n)∨(∃ el,P.underlying t=some (.slice el)∧k=none)):=by
     cases h0:argTypes[0]? with
     | none=>rw [h0] at hc; simp at hc
     | some t =>
      rw [h0] at hc
      simp only [Option.bind_some] at hc
      split at hc
      ·rename_i n el ht
       simp only [Option.some.injEq,Prod.mk.injEq] at hc
       exact ⟨_,t,hc.1.symm,hc.2,rfl,.inl ⟨n,el,ht,rfl⟩⟩
      ·rename_i el ht
       simp only [Option.some.injEq,Prod.mk.injEq] at hc
       exact ⟨_,t,hc.1.symm,hc.2,rfl,.inr ⟨el,ht,rfl⟩⟩
      ·cases hc
    obtain ⟨k,t,rfl,e0,h0,hk⟩:=kind
    rcases vs with _ | ⟨u,_ | ⟨_,_⟩⟩<;>simp only [xM,reduceCtorEq] at e
    obtain ⟨v,hv1,hv2⟩:=arg1 e0 u rfl
    obtain ⟨z,g1,g2⟩:=zS3 (ty:=type) h0 hk hv2 e
    exact ⟨z,run1 (by rw [hv1]; rfl) g1,g2⟩
   case min =>
    obtain ⟨rfl,e0⟩:=hc
    have hvs:=hv e0
    cases vs with
    | nil=>simp only [xM,reduceCtorEq] at e
    | cons u us =>
     simp only [xM] at e
     obtain ⟨v,vs',e1,h1,h2⟩:=nE hvs
     obtain ⟨z,g1,g2⟩:=xMo (f:=xJz) (g:=Builtin.min2) (fun hx hy=>zJ2 hx hy) h1 h2 e
     refine ⟨z,run1 rfl ?_,g2⟩
     have:(args.map a.eval).toList=v::vs':=by simpa using e1
     simp only [Builtin.min_,this]; exact g1
   case max =>
    obtain ⟨rfl,e0⟩:=hc
    have hvs:=hv e0
    cases vs with
    | nil=>simp only [xM,reduceCtorEq] at e
    | cons u us =>
     simp only [xM] at e
     obtain ⟨v,vs',e1,h1,h2⟩:=nE hvs
     obtain ⟨z,g1,g2⟩:=xMo (f:=zAb) (g:=Builtin.max2) (fun hx hy=>zIy hx hy) h1 h2 e
     refine ⟨z,run1 rfl ?_,g2⟩
     have:(args.map a.eval).toList=v::vs':=by simpa using e1
     simp only [Builtin.max_,this]; exact g1
end
end Go.Abs
end
section
namespace Go.Abs
variable [envI:Env]
section
variable {P:Program} {X:Ctx} {ρ:Nm} {h:H} {w:World} {L:Nat→Prop} {fr:Tr AV} {a:Act}
def zGr (P:Program) (ρ:Nm) (L:Nat→Prop) (w:World) (s:Sem Next) (id:Pth) (r:AV) (x:AB):Prop :=
 ∃ v o k,s.run P w=.ok (.value v) (nK { w with drawn:=k } o)∧(∀ ρ' L' w',Sim ρ L w ρ' L' w'→BR P w' ρ' L' x o) ∧
  (∀ ρ' L' w',ρ' id=some w.heap.size→w'.heap[w.heap.size]?=some o→VR w' ρ' L' r v)
omit envI in
theorem xO6 (t:TypeId) (v:Value):(newVar t v).run P w=.ok ⟨w.heap.size,0,none⟩ (nK w (.cells v.cells t)):=by
 simp [newVar,newRow,nK]
theorem xBj {z:List AV} {zs:Array Value} (hz:VRs w ρ L z zs.toList) (_h0:zs.size≠0):∀ n,VRs w ρ L (List.replicate n z).flatten ((Array.range (n*zs.size)).map (zs[· % zs.size]!)).toList:=by
 intro n
 induction n with
 | zero=>simp [VRs]
 | succ n ih =>
  have e : ((Array.range ((n+1)*zs.size)).map (zs[· % zs.size]!)).toList=((Array.range (n*zs.size)).map (zs[· % zs.size]!)).toList++zs.toList:=by
   simp only [Array.toList_map,Array.toList_range]
   rw [Nat.succ_mul,List.range_add,List.map_append]
   congr 1
   rw [List.map_map]
   apply List.ext_getElem
   ·simp
   ·intro i h1 h2
    simp only [List.length_map,List.length_range] at h1
    simp only [List.getElem_map,List.getElem_range,Function.comp]
    have:(n*zs.size+i) % zs.size=i:=by
     rw [Nat.mul_add_mod']; exact Nat.mod_eq_of_lt h1
    rw [this]
    simp [h1]
  rw [e,List.replicate_succ',List.flatten_append]
  simpa using ih.append hz
theorem xB6 {s:Sem Next} {id:Pth} {r:AV} {cs:List AV} {c:Array Value} {el:TypeId} {v:Value} (hrun:s.run P w=.ok (.value v) (nK w (.cells c el))) (hc:VRs w ρ L cs c.toList)
  (hb:∀ id b,ρ id=some b→b<w.heap.size) (hv:∀ ρ' L' w',ρ' id=some w.heap.size→w'.heap[w.heap.size]?=some (.cells c el)→VR w' ρ' L' r v):zGr P ρ L w s id r (.cells cs false):=by
 refine ⟨v,.cells c el,w.drawn,hrun,fun ρ' L' w' hs => ?_,fun ρ' L' w' h1 h2=>hv ρ' L' w' h1 h2⟩
 have:=hc.mono hs hb
 exact ⟨c,el,0,0,rfl,this.toP,fun _=>by have:=hc.length; simpa using this,.inl (Nat.le_refl _)⟩
theorem VRs.toP_append {as1:List AV} {vs:List Value} (h:VRs w ρ L as1 vs) (us:List Value):VRp w ρ L as1 (vs++us):=by
 induction as1 generalizing vs with
 | nil=>simp only [VRp]
 | cons a as1 ih =>
  simp only [VRs] at h
  obtain ⟨v,vs',rfl,h1,h2⟩:=h
  simp only [VRp]
  exact ⟨v,vs'++us,rfl,h1,ih h2⟩
theorem dN (s:ByteArray):VRs w ρ L ((xP s).map fun (b:Nat)=>AV.int .u8 (b:Int)) (s.data.map fun b=>Value.int .u8 b.toNat).toList:=by
 simp only [xP,Array.toList_map,List.map_map]
 generalize s.data.toList=l
 induction l with
 | nil=>simp [VRs]
 | cons b l ih =>
  simp only [List.map_cons,VRs,Function.comp]
  exact ⟨_,_,rfl,by simp only [VR],ih⟩
omit envI in
theorem gR {op:AOp} {vs:List AV} {id:Pth} {r:AV} {x:AB} (e:jX op vs id=some (r,x)):xO op=true:=by
 cases op<;>simp only [jX,reduceCtorEq] at e<;>first | rfl | skip
set_option maxHeartbeats 1000000 in
theorem zAa {o:Oper} {aop:AOp} {os:List Opd} {vs:List AV} {id:Pth} {r:AV} {x:AB} (hc:qO P o.type o.op=some (aop,os)) (he:xE X fr os=some vs) (hr:HR P X ρ h w) (hf:FR w ρ (Lv ρ h) fr a.tmps)
  (e:jX aop vs id=some (r,x)):zGr P ρ (Lv ρ h) w (execOp a.eval o) id r x:=by
 obtain ⟨dst,op,type,pos,after,guard⟩:=o
 have ptr:∀ (ρ':Nm) (L':Nat→Prop) (w':World),ρ' id=some w.heap.size→VR w' ρ' L' (.ptr id 0) (.pointer (some ⟨w.heap.size,0,none⟩)):=by
  intro ρ' L' w' hh; simp only [VR]; exact ⟨_,hh,rfl⟩
 cases op<;>simp only [qO,Option.bind_eq_bind,Option.bind_eq_some_iff,Option.pure_def,Option.some.injEq,Prod.mk.injEq,reduceCtorEq] at hc
 case alloc t =>
  obtain ⟨z,hz,rfl,rfl⟩:=hc
  have hv:=ev0 he; subst hv
  simp only [jX,Option.some.injEq,Prod.mk.injEq] at e
  obtain ⟨rfl,rfl⟩:=e
  simp only [wM,Option.map_eq_some_iff] at hz
  obtain ⟨za,hz,rfl⟩:=hz
  obtain ⟨zv,hz1,hz2⟩:=pN hz
  refine xB6 (v:=.pointer (some ⟨w.heap.size,0,none⟩)) (c:=zv.cells) (el:=t) ?_ (hz2 (w:=w) (ρ:=ρ) (L:=Lv ρ h)).cells hr.bound (fun ρ' L' w' h1 _=>ptr ρ' L' w' h1)
  simp only [execOp,Instr.alloc]
  refine wX ?_
  simp [hz1,xO6]
 case box t y =>
  obtain ⟨y1,hy,rfl,rfl⟩:=hc
  obtain ⟨v1,rfl,e1⟩:=ev1 he
  simp only [jX,Option.some.injEq,Prod.mk.injEq] at e
  obtain ⟨rfl,rfl⟩:=e
  refine xB6 (v:=.pointer (some ⟨w.heap.size,0,none⟩)) (c:=(a.eval y).cells) (el:=t) ?_ (zC hr hf hy e1).cells hr.bound (fun ρ' L' w' h1 _=>ptr ρ' L' w' h1)
  simp only [execOp,Instr.box]
  refine wX ?_
  simp [xO6]
 case buildSlice t n ps =>
  split at hc<;>first | (cases hc; done) | skip
  rename_i el ht
  simp only [Option.bind_eq_some_iff] at hc
  obtain ⟨z,hz,os',hos,hc⟩:=hc
  split at hc<;>first | (cases hc; done) | skip
  rename_i hcond
  simp only [Option.some.injEq,Prod.mk.injEq] at hc
  obtain ⟨rfl,rfl⟩:=hc
  simp only [Bool.or_eq_true,bne_iff_ne,ne_eq,beq_iff_eq,decide_eq_true_eq,not_or,Decidable.not_not,Nat.not_lt] at hcond
  simp only [jX] at e
  cases hfl:mM (P.cellsOf el) (List.replicate n z).flatten (ps.toList.map (·.1)) vs with
  | none=>rw [hfl] at e; cases e
  | some cs =>
   rw [hfl] at e
   simp only [Option.some.injEq,Prod.mk.injEq] at e
   obtain ⟨rfl,rfl⟩:=e
   simp only [wM,Option.map_eq_some_iff] at hz
   obtain ⟨za,hz,rfl⟩:=hz
   obtain ⟨zv,hz1,hz2⟩:=pN hz
   have hzc:VRs w ρ (Lv ρ h) za.cells zv.cells.toList:=(hz2 (w:=w) (ρ:=ρ) (L:=Lv ρ h)).cells
   have hzl:zv.cells.size=P.cellsOf el:=by have:=hzc.length; simp only [Array.length_toList] at this; omega
   have hops':(ps.toList.map (·.2)).mapM opd=some os':=by rw [List.mapM_map]; exact hos
   have hv:=pH hr hf hops' he
   have hinfo:(sizeOf el).run P w=.ok (P.cellsOf el) w:=by
    unfold zeroOf at hz
    simp only [Option.bind_eq_bind,Option.bind_eq_some_iff] at hz
    obtain ⟨i,hi,_⟩:=hz
    simp [sizeOf,typeInfo,hi,Program.cellsOf]
   have hrep:=xBj hzc (by omega) n
   have hfill:∀ {is:List Nat} {vs:List AV} {us:List Value} {cs cs':List AV} {cells:Array Value},mM (P.cellsOf el) cs is vs=some cs'→VRs w ρ (Lv ρ h) cs cells.toList→VRs w ρ (Lv ρ h) vs us→is.length=us.length →
     ∃ cells',Instr.fill (fun i=>some (i*P.cellsOf el,P.cellsOf el)) cells (is.zip us)=some cells'∧VRs w ρ (Lv ρ h) cs' cells'.toList:=by
    intro is vs us cs cs' cells h1 h2 h3 h4
    refine xMn (ps:=is.map fun i=>(i*P.cellsOf el,P.cellsOf el)) (by simp) ?_ h2 h3 h4
    clear h2 h3 h4 hv hrep
    induction is generalizing vs cs with
    | nil=>cases vs<;>simp [mM,jO] at h1 ⊢; exact h1
    | cons i is ih =>
     cases vs with
     | nil=>simp [mM] at h1
     | cons v vs =>
      simp only [mM] at h1
      simp only [List.map_cons,jO]
      cases hb:(Nat.beq v.cells.length (P.cellsOf el)&&Nat.ble (i*P.cellsOf el+P.cellsOf el) cs.length) with
      | false=>rw [hb] at h1; cases h1
      | true =>
       rw [hb] at h1
       simp only [cond_true] at h1 ⊢
       cases hs:setAt cs (i*P.cellsOf el) v.cells with
       | none=>rw [hs] at h1; cases h1
       | some cs1=>rw [hs] at h1; simp only at h1 ⊢; exact ih h1
   obtain ⟨cells',f1,f2⟩:=hfill hfl hrep hv (by simp)
   refine xB6 (v:=.slice (some ⟨w.heap.size,0,none⟩) n n) (c:=cells') (el:=el) ?_ f2 hr.bound ?_
   ·simp only [execOp]
    refine wX ?_
    have hps:(ps.map fun (i,x)=>(i,a.eval x)).toList=(ps.toList.map (·.1)).zip ((ps.toList.map (·.2)).map a.eval):=by
     simp [List.zip_map',List.map_map]
    have hle:¬ n*P.cellsOf el>2 ^ 24:=by
     have:(2:Nat) ^ 24=16777216:=by decide
     omega
    rw [hzl] at f1
    by_cases h0:n*P.cellsOf el=0
    ·rw [h0] at f1
     have e0:(Array.map (fun x=>zv.cells[x % P.cellsOf el]!) (Array.range 0))=(#[]:Array Value):=by simp
     rw [e0] at f1
     have e1:(Array.range (n*P.cellsOf el)).map (fun i=>(#[]:Array Value)[i % (#[]:Array Value).size]!) = #[]:=by rw [h0]; simp
     simp only [Instr.buildSlice,Sem.run_bind,run_underlying ht w,Result.andThen_ok,hinfo,if_neg hle,Sem.run_pure,if_pos h0,hps,e1,f1]
     simp [newRow,nK]
    ·simp only [Instr.buildSlice,Sem.run_bind,run_underlying ht w,Result.andThen_ok,hinfo,if_neg hle,Sem.run_pure,if_neg h0,hz1,hps,hzl,f1]
     simp [newRow,nK]
   ·intro ρ' L' w' h1 h2
    simp only [VR]
    exact ⟨_,n,h1,rfl,Nat.le_refl _,rfl⟩
 case makeMap t rsv =>
  cases rsv<;>simp only [reduceCtorEq,Option.some.injEq,Prod.mk.injEq] at hc
  obtain ⟨rfl,rfl⟩:=hc
  have hv:=ev0 he; subst hv
  simp only [jX,Option.some.injEq,Prod.mk.injEq] at e
  obtain ⟨rfl,rfl⟩:=e
  refine ⟨.map (some w.heap.size),.map #[] 0,w.drawn,?_,fun ρ' L' w' _=>⟨#[],0,rfl,by simp [VRs],by simp [VRs],by simp [WFm]⟩,fun ρ' L' w' h1 _=>by simp only [VR]; exact ⟨_,h1,rfl⟩⟩
  simp only [execOp,Instr.makeMap,Option.map_none]
  refine wX ?_
  simp [nK]
 case makeSlice t l c =>
  split at hc<;>first | (cases hc; done) | skip
  rename_i el ht
  simp only [Option.bind_eq_some_iff] at hc
  obtain ⟨z,hz,hc⟩:=hc
  split at hc<;>first | (cases hc; done) | skip
  rename_i hcond
  simp only [Option.bind_eq_some_iff,Option.some.injEq,Prod.mk.injEq] at hc
  obtain ⟨l1,hl,c1,hcc,rfl,rfl⟩:=hc
  simp only [Bool.or_eq_true,bne_iff_ne,ne_eq,beq_iff_eq,not_or,Decidable.not_not] at hcond
  obtain ⟨v1,v2,rfl,e1,e2⟩:=ev2 he
  cases v1<;>cases v2<;>simp only [jX,reduceCtorEq] at e
  rename_i k1 lv k2 cv
  cases hb:(leI 0 lv&&leI lv cv&&ltI cv (.ofNat xQ)&&ltI (.ofNat (P.bytesOf el)*cv) (.ofNat xQ)) with
  | false=>rw [hb] at e; cases e
  | true =>
   rw [hb] at e
   simp only [cond_true,Option.some.injEq,Prod.mk.injEq] at e
   obtain ⟨rfl,rfl⟩:=e
   simp only [Bool.and_eq_true] at hb
   have b1:=pC hb.1.1.1
   have b2:=pC hb.1.1.2
   have b3:=gQ hb.1.2
   have b4:=gQ hb.2
   have hbig:xQ=35184372088832:=rfl
   simp only [Int.ofNat_eq_natCast,hbig] at b3 b4
   simp only [wM,Option.map_eq_some_iff] at hz
   obtain ⟨za,hz,rfl⟩:=hz
   obtain ⟨zv,hz1,hz2⟩:=pN hz
   have hzc:VRs w ρ (Lv ρ h) za.cells zv.cells.toList:=(hz2 (w:=w) (ρ:=ρ) (L:=Lv ρ h)).cells
   have hzl:zv.cells.size=P.cellsOf el:=by have:=hzc.length; simp only [Array.length_toList] at this; omega
   have hinfo:∃ i,P.info? el=some i:=by
    unfold zeroOf at hz
    simp only [Option.bind_eq_bind,Option.bind_eq_some_iff] at hz
    obtain ⟨i,hi,_⟩:=hz
    exact ⟨i,hi⟩
   obtain ⟨i,hi⟩:=hinfo
   have hby:P.bytesOf el=i.bytes:=by simp [Program.bytesOf,hi]
   have hsz:(sizeOf el).run P w=.ok (P.cellsOf el) w:=by simp [sizeOf,typeInfo,hi,Program.cellsOf]
   have hrep:=xBj hzc (by omega) cv.toNat
   have w1:IntKind.i64.wrap lv=lv:=IntWalk.i64_in lv ⟨by omega,by omega⟩
   have w2:IntKind.i64.wrap cv=cv:=IntWalk.i64_in cv ⟨by omega,by omega⟩
   have hl':=int_of (zC hr hf hl e1)
   have hc':=int_of (zC hr hf hcc e2)
   refine xB6 (v:=.slice (some ⟨w.heap.size,0,none⟩) lv.toNat cv.toNat) (c:=(Array.range (cv.toNat*zv.cells.size)).map (zv.cells[· % zv.cells.size]!)) (el:=el) ?_ hrep hr.bound ?_
   ·simp only [execOp]
    refine wX ?_
    rw [hl',hc']
    have t1:¬ (cv<0∨(2:Int) ^ 48<(i.bytes:Int)*cv):=by
     rw [hby] at b4
     have:(2:Int) ^ 48=281474976710656:=by decide
     rw [this]
     omega
    have t2:¬ lv<0:=by omega
    have t3:¬ lv>cv:=by omega
    have hty:=dH hi w
    have hroom:(askRoom (cv.toNat*i.bytes)).run P w=.ok () w:=by
     have hr':¬ cv.toNat*i.bytes>roomBytes:=by
      have:roomBytes=140737488355328:=by decide
      rw [this]
      have h5:((cv.toNat*i.bytes:Nat):Int)=(i.bytes:Int)*cv:=by
       rw [Int.natCast_mul,Int.toNat_of_nonneg (by omega),Int.mul_comm]
      rw [hby] at b4
      omega
     simp [askRoom,hr']
    have g1:(cv<0||decide ((i.bytes:Int)*cv>2 ^ 48))=false:=by
     simp only [Bool.or_eq_false_iff,decide_eq_false_iff_not]; exact ⟨fun h=>t1 (.inl h),fun h=>t1 (.inr h)⟩
    by_cases h0:cv.toNat*P.cellsOf el=0
    ·have e1:(Array.range (cv.toNat*P.cellsOf el)).map (fun i=>(#[]:Array Value)[i % (#[]:Array Value).size]!) = #[]:=by rw [h0]; simp
     have e2:(Array.range (cv.toNat*P.cellsOf el)).map (fun i=>zv.cells[i % P.cellsOf el]!) = #[]:=by rw [h0]; simp
     simp only [Instr.makeSlice,Sem.run_bind,run_underlying ht w,Result.andThen_ok,asInt,asIntOf,Sem.run_pure,hty,w1,w2]
     rw [if_neg (by simp only [g1]; simp [t2,t3])]
     simp only [Sem.run_bind,hroom,Result.andThen_ok,hsz,Sem.run_pure,if_pos h0,e1,hzl,e2]
     simp [newRow,nK]
    ·simp only [Instr.makeSlice,Sem.run_bind,run_underlying ht w,Result.andThen_ok,asInt,asIntOf,Sem.run_pure,hty,w1,w2]
     rw [if_neg (by simp only [g1]; simp [t2,t3])]
     simp only [Sem.run_bind,hroom,Result.andThen_ok,hsz,Sem.run_pure,if_neg h0,hz1,hzl]
     simp [newRow,nK]
   ·intro ρ' L' w' h1 h2
    simp only [VR]
    exact ⟨_,cv.toNat,h1,rfl,by omega,rfl⟩
 case range t x =>
  split at hc<;>first | (cases hc; done) | skip
  case h_2 =>
   simp only [Option.bind_eq_some_iff,Option.some.injEq,Prod.mk.injEq] at hc
   obtain ⟨_,_,rfl,_⟩:=hc
   simp [jX] at e
  rename_i ht
  simp only [Option.bind_eq_some_iff,Option.some.injEq,Prod.mk.injEq] at hc
  obtain ⟨x1,hx,rfl,rfl⟩:=hc
  obtain ⟨v1,rfl,e1⟩:=ev1 he
  cases v1<;>simp only [jX,reduceCtorEq,Option.some.injEq,Prod.mk.injEq] at e
  obtain ⟨rfl,rfl⟩:=e
  have hx':=zC hr hf hx e1
  simp only [VR] at hx'
  obtain ⟨s,hs,rfl⟩:=hx'
  refine ⟨.pointer (some ⟨w.heap.size,0,none⟩),.stringIter s 0,w.drawn,?_,fun ρ' L' w' _=>⟨s,rfl,rfl⟩,fun ρ' L' w' h1 _=>ptr ρ' L' w' h1⟩
  simp only [execOp]
  refine wX ?_
  rw [hs]
  simp [Instr.range,run_underlying ht w,nK]
 case convert src dst' x =>
  split at hc
  ·rename_i el h1 h2
   split at hc<;>first | (cases hc; done) | skip
   rename_i h3
   simp only [Option.bind_eq_some_iff,Option.some.injEq,Prod.mk.injEq] at hc
   obtain ⟨x1,hx,rfl,rfl⟩:=hc
   obtain ⟨v1,rfl,e1⟩:=ev1 he
   cases v1<;>simp only [jX,reduceCtorEq] at e
   rename_i sl
   cases hb:Nat.ble xQ sl.length with
   | true=>rw [hb] at e; cases e
   | false =>
    rw [hb] at e
    simp only [cond_false,Option.some.injEq,Prod.mk.injEq] at e
    obtain ⟨rfl,rfl⟩:=e
    have hx':=zC hr hf hx e1
    simp only [VR] at hx'
    obtain ⟨s,hs,rfl⟩:=hx'
    have hcap:s.size≤grownCap w s.size 0 el:=by simp [grownCap,Question.cut]
    have hsize:(bytesRow s (grownCap w s.size 0 el)).size=grownCap w s.size 0 el:=by
     simp only [bytesRow,Array.size_append,Array.size_map,Array.size_replicate]
     have:s.data.size=s.size:=rfl
     omega
    refine ⟨.slice (some ⟨w.heap.size,0,none⟩) s.size (grownCap w s.size 0 el),.cells (bytesRow s (grownCap w s.size 0 el)) el ((bytesRow s (grownCap w s.size 0 el)).size,(bytesRow s (grownCap w s.size 0 el)).size+1),w.drawn+1,?_,?_,?_⟩
    ·simp only [execOp]
     refine wX ?_
     rw [hs,run_bytes_of_string w src dst' el s h1 h2 h3]
     rfl
    ·intro ρ' L' w' _
     refine ⟨_,_,_,_,rfl,?_,(fun h=>by cases h),.inr (Nat.le_refl _)⟩
     rw [bytesRow,Array.toList_append]
     have:=dN (w:=w') (ρ:=ρ') (L:=L') s
     exact this.toP_append _
    ·intro ρ' L' w' h4 h5
     simp only [VR]
     have hlen:(xP s).length=s.size:=by simp only [xP,List.length_map]; rfl
     rw [hlen]
     refine ⟨_,_,h4,rfl,hcap,?_⟩
     ·simp only [bsz,h5,hsize]; omega
  ·simp only [Option.bind_eq_some_iff,Option.some.injEq,Prod.mk.injEq] at hc
   obtain ⟨_,_,_,_,rfl,rfl⟩:=hc
   exact absurd (gR e) (by simp [xO])
 case makeFunc fn first caught =>
  cases fn<;>simp only [reduceCtorEq,Option.bind_eq_some_iff,Option.some.injEq,Prod.mk.injEq] at hc
  obtain ⟨l1,h1,l2,h2,rfl,rfl⟩:=hc
  exact absurd (gR e) (by simp [xO])
 case defer c =>
  obtain ⟨callee,args,argTypes⟩:=c
  cases callee<;>simp only [reduceCtorEq,Option.bind_eq_some_iff,Option.some.injEq,Prod.mk.injEq] at hc
  obtain ⟨_,_,_,_,rfl,rfl⟩:=hc
  exact absurd (gR e) (by simp [xO])
 case call c =>
  obtain ⟨callee,args,argTypes⟩:=c
  have hm:=gR e
  cases callee with
  | value f =>
   simp only [Option.bind_eq_some_iff,Option.some.injEq,Prod.mk.injEq] at hc
   obtain ⟨_,_,_,_,rfl,rfl⟩:=hc
   exact absurd hm (by simp [xO])
  | invoke rc nm =>
   simp only [Option.bind_eq_some_iff,Option.some.injEq,Prod.mk.injEq] at hc
   obtain ⟨_,_,_,_,rfl,rfl⟩:=hc
   exact absurd hm (by simp [xO])
  | builtin b =>
   simp only [Option.bind_eq_some_iff] at hc
   obtain ⟨as1,has,hc⟩:=hc
   cases b
   all_goals
    repeat' first
     | (simp only [xO,Bool.false_eq_true] at hm; done)
     | (cases hc; done)
     | (obtain ⟨h1,hc⟩:=hc; try subst h1)
     | (split at hc)
     | (simp only [Option.bind_eq_some_iff,Option.some.injEq,Prod.mk.injEq] at hc)
 all_goals
  have hm:=gR e
  repeat' first
   | (simp only [xO,Bool.false_eq_true] at hm; done)
   | (cases hc; done)
   | (obtain ⟨h1,hc⟩:=hc; try subst h1)
   | (split at hc)
   | (simp only [Option.bind_eq_some_iff,Option.some.injEq,Prod.mk.injEq] at hc)
end
end Go.Abs
end
section
namespace Go.Abs
variable [envI:Env]
section
variable {P:Program} {X:Ctx} {ρ:Nm} {h:H} {w:World} {L:Nat→Prop}
theorem xQj {a:AV} {v:Value} (hv:VR w ρ L a v) (h1:a.one=true):v.oneCell'=true:=by
 cases a<;>simp only [AV.one,Bool.false_eq_true] at h1<;>simp only [VR] at hv
 all_goals first
  | exact Env.one hv
  | (subst hv; rfl)
  | (obtain ⟨_,rfl⟩:=hv; rfl)
  | (obtain ⟨_,rfl,_⟩:=hv; rfl)
  | (obtain ⟨_,_,rfl⟩:=hv; rfl)
  | (obtain ⟨_,_,rfl,_⟩:=hv; rfl)
  | (obtain ⟨_,_,_,rfl,_⟩:=hv; rfl)
  | (obtain ⟨_,_,_,_,_,rfl,_⟩:=hv; rfl)
theorem xC7:∀ {l:List AV} {us:List Value},VRs w ρ L l us→mF l=true→∀ v∈us,v.oneCell'=true
 | [],us,hv,_=>by simp only [VRs] at hv; subst hv; simp
 | a::l,us,hv,h1=>by
  simp only [VRs] at hv
  obtain ⟨v,us',rfl,h2,h3⟩:=hv
  simp only [mF,Bool.and_eq_true] at h1
  intro u hu
  rcases List.mem_cons.1 hu with rfl | hu
  ·exact xQj h2 h1.1
  ·exact xC7 h3 h1.2 u hu
omit envI in
theorem setCell_at {b off:Nat} {c:Array Value} {el:TypeId} {fz:Nat×Nat} (hw:w.heap[b]?=some (.cells c el fz)) (v:Value) :
  w.setCell ⟨b,off,none⟩ v=gV w b (.cells (c.setIfInBounds off v) el fz):=by
 have hlt:=lt_of_heap hw
 have hget:w.heap[b]=.cells c el fz:=by
  rw [Array.getElem?_eq_getElem hlt] at hw; exact Option.some.inj hw
 unfold World.setCell gV
 congr 1
 apply Array.ext_getElem?
 intro i
 rw [Array.getElem?_modify,Array.getElem?_setIfInBounds]
 by_cases e:b=i
 ·subst e
  simp [hlt,hget]
 ·simp [e]
omit envI in
theorem xE7 {α:Type} (rest:List α) (v:α):∀ (l:List α) (n:Nat),n<l.length →
  (l.set n v).take (n+1)++rest++(l.set n v).drop (n+1+rest.length)=l.take n++v::rest++l.drop (n+(rest.length+1))
 | [],n,h=>by simp at h
 | x::l,0,_=>by
  have e:0+1+rest.length=rest.length+1:=by omega
  simp [e]
 | x::l,n+1,h=>by
  have:=xE7 rest v l n (by simpa using h)
  have e1:n+1+1+rest.length=(n+1+rest.length)+1:=by omega
  have e2:n+1+(rest.length+1)=(n+(rest.length+1))+1:=by omega
  rw [List.set_cons_succ,List.take_succ_cons,e1,e2,List.drop_succ_cons,List.drop_succ_cons,List.take_succ_cons,List.cons_append,List.cons_append,List.cons_append,List.cons_append,this]
omit envI in
theorem dM {b off:Nat} {el:TypeId} {lo hi:Nat}:∀ (vs:List Value) (i:Nat) (c:Array Value) (w:World),w.heap[b]?=some (.cells c el (lo,hi))→(hi≤lo∨c.size≤lo) →
  off+i+vs.length≤c.size→(∀ v∈vs,v.oneCell'=true) →
  ∃ c',c'.toList=c.toList.take (off+i)++vs++c.toList.drop (off+i+vs.length)∧(storeCells ⟨b,off,none⟩ vs i).run P w=.ok () (gV w b (.cells c' el (lo,hi))):=by
 intro vs
 induction vs with
 | nil =>
  intro i c w hw hfz hle hone
  exact ⟨c,by simp,by rw [xIa w b _ hw]; rfl⟩
 | cons v rest ih =>
  intro i c w hw hfz hle hone
  simp only [List.length_cons] at hle
  have hlt:=lt_of_heap hw
  have hin:off+i<c.size:=by omega
  have hfr:w.frozen? ⟨b,off+i,none⟩=false:=by
   simp only [World.frozen?,hw,Bool.and_eq_false_iff,decide_eq_false_iff_not]
   omega
  have hcell:w.cell? ⟨b,off+i,none⟩=some c[off+i]:=by rw [xR8 w b _ c el _ hw]; simp [hin]
  have hw1:(gV w b (.cells (c.setIfInBounds (off+i) v) el (lo,hi))).heap[b]?=some (.cells (c.setIfInBounds (off+i) v) el (lo,hi)):=by
   rw [wT _ _ _ _ hlt,if_pos rfl]
  obtain ⟨c',h1,h2⟩:=ih (i+1) (c.setIfInBounds (off+i) v) _ hw1 (by simpa using hfz) (by simp; omega) (fun u hu=>hone u (List.mem_cons_of_mem _ hu))
  refine ⟨c',?_,?_⟩
  ·rw [h1]
   simp only [Array.toList_setIfInBounds]
   exact xE7 rest v c.toList (off+i) (by simpa using hin)
  ·simp only [storeCells,Sem.run_bind,add_plain,run_store _ _ _ _ _ (hone v (List.mem_cons_self ..)),hcell,hfr,Bool.false_eq_true,if_false,Result.andThen_ok,setCell_at hw]
   rw [h2,zFi]
theorem HR.write (hr:HR P X ρ h w) {id:Pth} {cs cs' l:List AV} {sp:Bool} {off b:Nat} {us:List Value} (hg:h.t.get id=some (.cells cs sp)) (hb:ρ id=some b) (hs:setAt cs off l=some cs') (hu:VRs w ρ (Lv ρ h) l us)
  (h1:mF l=true):∃ w',(storeCells ⟨b,off,none⟩ us).run P w=.ok () w'∧HR P X ρ { h with t:=h.t.put id (.cells cs' sp) } w'∧Sim ρ (Lv ρ h) w ρ (Lv ρ { h with t:=h.t.put id (.cells cs' sp) }) w':=by
 obtain ⟨b',o,hb',ho,hx⟩:=hr.live id _ hg
 cases hb.symm.trans hb'
 obtain ⟨c,el,lo,hi,rfl,hc,hsz,hfz⟩:=hx
 obtain ⟨r1,r2,r3⟩:=xD3 hs hc hu
 rcases r3 with rfl | r3
 ·refine ⟨w,rfl,?_⟩
  have:=hr.set hg hb ho (x':=.cells cs' sp) (o':=.cells c el (lo,hi)) (by rw [xIa w b _ ho]) (fun ρ' L' w' hs'=>by
   refine ⟨c,el,lo,hi,rfl,?_,fun e=>(hsz e).trans r2.symm,hfz⟩
   have:=r1.mono hs' hr.bound
   simpa using this)
  rw [xIa w b _ ho] at this
  exact this
 ·obtain ⟨c',e1,e2⟩:=dM (P:=P) (off:=off) us 0 c w ho hfz (by simpa using r3) (xC7 hu h1)
  simp only [Nat.add_zero] at e1
  have hs':c'.size=c.size:=by
   have:=congrArg List.length e1
   simp only [Array.length_toList,List.length_append,List.length_take,List.length_drop] at this r3
   omega
  have hsz2:bsz (gV w b (.cells c' el (lo,hi))) b=bsz w b:=by
   unfold bsz
   rw [wT _ _ _ _ (lt_of_heap ho),if_pos rfl,ho]
   simpa using hs'
  have:=hr.set hg hb ho (x':=.cells cs' sp) (o':=.cells c' el (lo,hi)) hsz2 (fun ρ' L' w' hsim=>by
   refine ⟨c',el,lo,hi,rfl,?_,fun e=>by rw [hs',hsz e,r2],by rw [hs']; exact hfz⟩
   rw [e1]
   exact r1.mono hsim hr.bound)
  exact ⟨_,e2,this⟩
end
def Step (P:Program) (X:Ctx) (ρ:Nm) (h:H) (w:World) (s:Sem Next) (r:AV) (h':H):Prop :=
 ∃ v w' ρ',s.run P w=.ok (.value v) w'∧HR P X ρ' h' w'∧Sim ρ (Lv ρ h) w ρ' (Lv ρ' h') w'∧VR w' ρ' (Lv ρ' h') r v
section
variable {P:Program} {X:Ctx} {ρ:Nm} {h:H} {w:World}
theorem zSd (hr:HR P X ρ h w) {t:TypeId} {n:Option Nat} (hn:mX P t=some n) {a v:AV} {av vv:Value} (ha:VR w ρ (Lv ρ h) a av) (hv:VR w ρ (Lv ρ h) v vv) {h':H} (e:wW h (P.cellsOf t) a v=some h') :
  ∃ ad w',av=.pointer (some ad)∧(storeVar t ad vv).run P w=.ok () w'∧HR P X ρ h' w'∧Sim ρ (Lv ρ h) w ρ (Lv ρ h') w':=by
 cases a<;>simp only [wW,reduceCtorEq] at e
 rename_i id off
 cases hg:h.t.get id with
 | none=>rw [hg] at e; cases e
 | some x =>
  rw [hg] at e
  cases x<;>simp only [reduceCtorEq] at e
  rename_i cs sp
  cases hb:(Nat.beq v.cells.length (P.cellsOf t)&&mF v.cells) with
  | false=>rw [hb] at e; cases e
  | true =>
   rw [hb] at e
   simp only [cond_true] at e
   cases hs:setAt cs off v.cells with
   | none=>rw [hs] at e; cases e
   | some cs' =>
    rw [hs] at e
    simp only [Option.some.injEq] at e
    subst e
    simp only [Bool.and_eq_true,Nat.beq_eq] at hb
    simp only [VR] at ha
    obtain ⟨b,hb1,rfl⟩:=ha
    obtain ⟨w',h1,h2⟩:=hr.write hg hb1 hs hv.cells hb.2
    refine ⟨_,w',rfl,?_,h2⟩
    obtain ⟨d,hd,_⟩:=kS hn
    have hl:=hv.cells.length
    simp only [Array.length_toList] at hl
    have hne:¬ vv.cells.size≠P.cellsOf t:=by omega
    simp only [storeVar,Sem.run_bind,yY hd,Result.andThen_ok,if_neg hne]
    exact h1
end
end Go.Abs
end
end
