/- A part of the proof that LibSwaps answers true at every input: AbsDraw, AbsDraw2, AbsDraw3, AbsDraw4. -/
import Derived.Orders
import Derived.Test.YtaendaokfclnoaaGreatDoorC10
noncomputable section
section
namespace Go.Abs
variable [envI:Env]
inductive Anc (ops:Array Oper):Nat→Nat→Prop
  | one {i:Nat} {o:Oper} {e:Edge} (h1:ops[i]?=some o) (h2:e∈o.after) (h3:Region.binds .any e=true):Anc ops i e.on
  | more {i j:Nat} {o:Oper} {e:Edge} (h1:ops[i]?=some o) (h2:e∈o.after) (h3:Region.binds .any e=true) (h4:Anc ops e.on j):Anc ops i j
omit envI in
theorem Anc.lt {ops:Array Oper} (he:∀ i o,ops[i]?=some o→∀ e∈o.after,Region.binds .any e=true→e.on<i) {i j:Nat} (h:Anc ops i j):j<i:=by
  induction h with
  | one h1 h2 h3=>exact he _ _ h1 _ h2 h3
  | more h1 h2 h3 _ ih=>exact Nat.lt_trans ih (he _ _ h1 _ h2 h3)
def Closed (ops:Array Oper) (D:Nat→Bool):Prop:=∀ i o,D i=true→ops[i]?=some o→∀ e∈o.after,Region.binds .any e=true→D e.on=true
omit envI in
theorem Anc.closed {ops:Array Oper} {D:Nat→Bool} (hD:Closed ops D) {i j:Nat} (h:Anc ops i j) (hi:∀ o,ops[i]?=some o→∀ e∈o.after,Region.binds .any e=true→D e.on=true):D j=true:=by
  induction h with
  | one h1 h2 h3=>exact hi _ h1 _ h2 h3
  | more h1 h2 h3 _ ih=>exact ih (fun o ho e he hb=>hD _ o (hi _ h1 _ h2 h3) ho e he hb)
omit envI in
theorem xJh (acc:Array Nat) (j:Nat):∀ (l:List Edge) (s:Nat),(l.foldl (fun s e=>if Region.binds .any e then s ||| 2 ^ e.on ||| acc.getD e.on 0 else s) s).testBit j=true →
    s.testBit j=true∨∃ e∈l,Region.binds .any e=true∧(e.on=j∨(acc.getD e.on 0).testBit j=true)
  | [],s,h=>.inl h
  | e :: l,s,h=>by
    rw [List.foldl_cons] at h
    rcases xJh acc j l _ h with h | ⟨e',he',hb,hh⟩
    · by_cases hb:Region.binds .any e=true
      · rw [if_pos hb] at h
        simp only [Nat.testBit_or,Bool.or_eq_true,Nat.testBit_two_pow,decide_eq_true_eq] at h
        rcases h with (h | h) | h
        · exact .inl h
        · exact .inr ⟨e,List.mem_cons_self,hb,.inl h⟩
        · exact .inr ⟨e,List.mem_cons_self,hb,.inr h⟩
      · rw [if_neg hb] at h; exact .inl h
    · exact .inr ⟨e',List.mem_cons_of_mem _ he',hb,hh⟩
omit envI in
theorem nS (ops:Array Oper) {i j:Nat} (h:((Region.before ops).getD i 0).testBit j=true):Anc ops i j:=by
  have key : (Region.before ops).size=ops.size∧∀ i,i<ops.size→∀ j,((Region.before ops).getD i 0).testBit j=true→Anc ops i j:=by
    unfold Region.before
    refine Array.foldl_induction (motive:=fun n (acc:Array Nat)=>acc.size=n∧∀ i,i<n→∀ j,(acc.getD i 0).testBit j=true→Anc ops i j) ⟨rfl,fun i hi=>by omega⟩ ?_
    intro n acc ⟨hsz,hacc⟩
    refine ⟨by simp [hsz],fun i hi j hb => ?_⟩
    by_cases hin:i<n.val
    · refine hacc i hin j ?_
      rw [Array.getD_eq_getD_getElem?,Array.getElem?_push,if_neg (by omega)] at hb
      rw [Array.getD_eq_getD_getElem?]; exact hb
    · have e : i=n.val:=by omega
      subst e
      rw [Array.getD_eq_getD_getElem?,Array.getElem?_push,if_pos hsz.symm,Option.getD_some,← Array.foldl_toList] at hb
      have ho:ops[n.val]?=some ops[n]:=by simp
      rcases xJh acc j _ _ hb with hb | ⟨e,he,hbb,hh⟩
      · simp at hb
      · have he':e∈ops[n].after:=Array.mem_toList_iff.1 he
        rcases hh with hh | hh
        · subst hh; exact .one ho he' hbb
        · refine .more ho he' hbb (hacc e.on ?_ j hh)
          rcases Nat.lt_or_ge e.on n.val with h | h
          · exact h
          · rw [Array.getD_eq_getD_getElem?,Array.getElem?_eq_none (by omega)] at hh
            simp at hh
  rcases Nat.lt_or_ge i ops.size with hi | hi
  · exact key.2 i hi j h
  · rw [Array.getD_eq_getD_getElem?,Array.getElem?_eq_none (by omega)] at h
    simp at h
omit envI in
theorem nY:∀ (n:Nat) (p:Pth),(yJ n p).num=p.num+n
  | 0,p=>rfl
  | n+1,p=>by rw [yJ,nY n p.succ,Pth.num_succ]; omega
inductive Did (X:Ctx) (call:jA) (d:DOper) (i:Nat) (id:Pth) (D:DSt):AV→DSt→Prop
  | skip (hw:xI D.s.fr d.o.guard=some false):Did X call d i id D (.tup []) { D with s:=D.s.put d.o.dst (.tup []),hs:=bif d.chain then (i,D.s.h)::D.hs else D.hs }
  | chain {v:AV} {s1:St} {vs:List AV} (hw:xI D.s.fr d.o.guard=some true) (he:xE X D.s.fr d.o.args=some vs) (hc:d.chain=true)
      (h1:∀ fr:Tr AV,yT call { D.s with h:=D.s.h.withP (zT d.makers D.pend),fr:=fr } d.o vs=.nrm (St.put { s1 with fr:=fr } d.o.dst v)) (h2:s1.fr=D.s.fr) (h3:d.last=true∨s1={ D.s with h:=s1.h }) :
      Did X call d i id D v { s:=s1.put d.o.dst v,hs:=(i,D.s.h)::D.hs,pend:=gF d.makers D.pend,log:=D.log }
  | maker {v:AV} {x:AB} {vs:List AV} (hw:xI D.s.fr d.o.guard=some true) (he:xE X D.s.fr d.o.args=some vs) (hc:d.chain=false) (hm:xO d.o.op=true) (h1:jX d.o.op vs id=some (v,x)) :
      Did X call d i id D v { D with s:=D.s.put d.o.dst v,pend:=⟨i,id,x⟩::D.pend }
  | read {v:AV} {vs:List AV} {log:List Log} (hw:xI D.s.fr d.o.guard=some true) (he:xE X D.s.fr d.o.args=some vs) (hc:d.chain=false) (hm:xO d.o.op=false)
      (h1:xM (D.s.h.withP (zT d.makers D.pend)) d.o.op vs=some v) (h2:(xS d.o.op&&d.wide)=false∧log=D.log∨log=⟨d.o.op,vs,v,d.lo,d.hi,zT d.makers D.pend⟩::D.log) :
      Did X call d i id D v { D with s:=D.s.put d.o.dst v,log:=log }
omit envI in
theorem xK7 {h:H} {aop:AOp} {vs:List AV} (hq:quiet aop=true):(∀ f as1,zS h aop vs≠.defer f as1)∧zS h aop vs≠.recover:=by
  cases hn:xUw aop with
  | false=>rcases xK6 (h:=h) vs hn with e | ⟨r,h',e⟩<;>rw [e]<;>exact ⟨nofun,nofun⟩
  | true =>
    cases aop<;>simp only [xUw,Bool.false_eq_true] at hn
    case defer=>simp [quiet] at hq
    case recover=>simp [quiet] at hq
    case call=>cases vs<;>exact ⟨nofun,nofun⟩
    case panic =>
      rcases vs with _ | ⟨v,_ | ⟨_,_⟩⟩
      · exact ⟨nofun,nofun⟩
      · cases v<;>exact ⟨nofun,nofun⟩
      · exact ⟨nofun,nofun⟩
    case invoke tbl =>
      rcases vs with _ | ⟨v,vs⟩
      · exact ⟨nofun,nofun⟩
      · cases v
        case iface t v =>
          simp only [zS]
          cases tbl.lookup t<;>exact ⟨nofun,nofun⟩
        all_goals exact ⟨nofun,nofun⟩
omit envI in
theorem xXs {call:jA} {s s':St} {o:AOper} {vs:List AV} (h:yT call s o vs=.nrm s'):∃ (v:AV) (s1:St),s'=s1.put o.dst v∧s1.fr=s.fr∧(quiet o.op=true→s1={ s with h:=s1.h }) ∧
    ∀ fr:Tr AV,yT call { s with fr:=fr } o vs=.nrm (St.put { s1 with fr:=fr } o.dst v):=by
  unfold yT at h
  cases hst:zS s.h o.op vs with
  | val v h' =>
    rw [hst] at h; cases h
    exact ⟨v,{ s with h:=h' },rfl,rfl,fun _=>rfl,fun fr=>by simp only [yT,hst]⟩
  | call f as1 =>
    rw [hst] at h
    simp only at h
    cases hc:call f as1 s.h with
    | ret v h' =>
      rw [hc] at h; cases h
      exact ⟨v,{ s with h:=h' },rfl,rfl,fun _=>rfl,fun fr=>by simp only [yT,hst,hc]⟩
    | panic v h'=>rw [hc] at h; cases h
    | bad n=>rw [hc] at h; cases h
  | defer f as1 =>
    rw [hst] at h
    simp only at h
    cases hrd:s.rd with
    | some l=>rw [hrd] at h; cases h
    | none =>
      rw [hrd] at h; cases h
      refine ⟨.tup [],{ s with df:=.call f as1::s.df,rd:=none },rfl,rfl,fun hq => ?_,fun fr=>by simp only [yT,hst]⟩
      exact absurd hst ((xK7 hq).1 _ _)
  | recover =>
    rw [hst] at h
    simp only at h
    cases hrd:s.rd with
    | some l=>rw [hrd] at h; cases h
    | none =>
      rw [hrd] at h
      simp only at h
      have hnq:quiet o.op=true→False:=by
        intro hq
        exact absurd hst (xK7 hq).2
      cases hrc:s.rc with
      | pan v =>
        rw [hrc] at h; cases h
        exact ⟨v,{ s with rc:=.recovered,rd:=none },rfl,rfl,fun hq=>(hnq hq).elim,fun fr=>by simp only [yT,hst]⟩
      | no =>
        rw [hrc] at h; cases h
        exact ⟨.nili,s,rfl,rfl,fun hq=>(hnq hq).elim,fun fr=>by simp only [yT,hst,hrd,hrc]⟩
      | recovered =>
        rw [hrc] at h; cases h
        exact ⟨.nili,s,rfl,rfl,fun hq=>(hnq hq).elim,fun fr=>by simp only [yT,hst,hrd,hrc]⟩
  | panic v h'=>rw [hst] at h; cases h
  | bad=>rw [hst] at h; cases h
omit envI in
theorem yDt {X:Ctx} {call:jA} {d:DOper} {i:Nat} {id:Pth} {D D':DSt} (h:kD X call d i id D=.done D'):∃ v,Did X call d i id D v D':=by
  unfold kD at h
  cases hw:xI D.s.fr d.o.guard with
  | none=>rw [hw] at h; cases h
  | some t =>
    rw [hw] at h
    cases t with
    | false =>
      refine ⟨.tup [],?_⟩
      have:=Did.skip (X:=X) (call:=call) (i:=i) (id:=id) hw
      cases hc:d.chain with
      | true=>rw [hc] at h this; cases h; exact this
      | false=>rw [hc] at h this; cases h; exact this
    | true =>
      cases he:xE X D.s.fr d.o.args with
      | none=>rw [he] at h; cases h
      | some vs =>
        rw [he] at h
        simp only at h
        cases hc:d.chain with
        | true =>
          rw [hc] at h
          simp only [cond_true] at h
          cases ho:yT call { D.s with h:=D.s.h.withP (zT d.makers D.pend) } d.o vs with
          | nrm s' =>
            rw [ho] at h
            simp only at h
            obtain ⟨v,s1,rfl,e1,e2,e3⟩:=xXs ho
            cases hq:(d.last||quiet d.o.op) with
            | false=>rw [hq] at h; cases h
            | true =>
              rw [hq] at h
              cases h
              refine ⟨v,Did.chain hw he hc e3 e1 ?_⟩
              simp only [Bool.or_eq_true] at hq
              rcases hq with hq | hq
              · exact .inl hq
              · exact .inr (e2 hq)
          | panic v s' =>
            rw [ho] at h
            simp only at h
            revert h
            cases (d.last&&_)<;>simp only [cond_true,cond_false]<;>intro h<;>cases h
          | exit _ _=>rw [ho] at h; cases h
          | ret _=>rw [ho] at h; cases h
          | bad _=>rw [ho] at h; cases h
        | false =>
          rw [hc] at h
          simp only [cond_false] at h
          cases hm:xO d.o.op with
          | true =>
            rw [hm] at h
            simp only [cond_true] at h
            cases hk:jX d.o.op vs id with
            | none=>rw [hk] at h; cases h
            | some p =>
              obtain ⟨v,x⟩:=p
              rw [hk] at h; cases h
              exact ⟨v,Did.maker hw he hc hm hk⟩
          | false =>
            rw [hm] at h
            simp only [cond_false] at h
            cases hk:xM (D.s.h.withP (zT d.makers D.pend)) d.o.op vs with
            | none=>rw [hk] at h; cases h
            | some v =>
              rw [hk] at h
              simp only at h
              cases hs:(xS d.o.op&&d.wide) with
              | true=>rw [hs] at h; cases h; exact ⟨v,Did.read hw he hc hm hk (.inr rfl)⟩
              | false=>rw [hs] at h; cases h; exact ⟨v,Did.read hw he hc hm hk (.inl ⟨hs,rfl⟩)⟩
omit envI in
theorem xJk {X:Ctx} {call:jA}:∀ (ds:List DOper) (i:Nat) (id:Pth) (d:DSt),∃ (f:Nat→DSt) (m:Nat),m≤ds.length∧f 0=d ∧
    (∀ j,j<m→∃ o,ds[j]?=some o∧kD X call o (i+j) (yJ j id) (f j)=.done (f (j+1))) ∧
    ((m=ds.length∧jB X call ds i id d=.done (f m))∨(∃ o out,ds[m]?=some o∧kD X call o (i+m) (yJ m id) (f m)=.out out∧jB X call ds i id d=.out out))
  | [],i,id,d=>⟨fun _=>d,0,Nat.le_refl _,rfl,fun j hj=>by omega,.inl ⟨rfl,rfl⟩⟩
  | o :: ds,i,id,d=>by
    cases hst:kD X call o i id d with
    | out r=>exact ⟨fun _=>d,0,by simp,rfl,fun j hj=>by omega,.inr ⟨o,r,by simp,by simpa [yJ] using hst,by simp only [jB,hst]⟩⟩
    | done d' =>
      obtain ⟨f,m,h1,h2,h3,h4⟩:=xJk ds (i+1) id.succ d'
      refine ⟨fun j=>match j with | 0=>d | j+1=>f j,m+1,by simpa using h1,rfl,fun j hj => ?_,?_⟩
      · cases j with
        | zero=>exact ⟨o,by simp,by simpa [yJ,h2] using hst⟩
        | succ j =>
          obtain ⟨o',g1,g2⟩:=h3 j (by omega)
          exact ⟨o',by simpa using g1,by rw [show i+(j+1)=i+1+j from by omega]; exact g2⟩
      · rcases h4 with ⟨g1,g2⟩ | ⟨o',out,g1,g2,g3⟩
        · exact .inl ⟨by simp [g1],by simp only [jB,hst]; exact g2⟩
        · exact .inr ⟨o',out,by simpa using g1,by rw [show i+(m+1)=i+1+m from by omega]; exact g2,by simp only [jB,hst]; exact g3⟩
end Go.Abs
end
section
namespace Go.Abs
variable [envI:Env]
omit envI in
theorem xSm {op:AOp} (hs:xS op=false) (h h':H) (vs:List AV):xM h op vs=xM h' op vs:=by
  unfold xM
  split
  case h_4=>simp [xS] at hs
  all_goals first
    | rfl
    | (simp only [xS,Bool.true_eq_false] at hs; done)
    | (rename_i k v; cases k<;>first | (simp only [xS,Bool.true_eq_false] at hs; done) | rfl | (cases v<;>rfl))
    | skip
def nH (ds:List DOper) (i:Nat):Option Pth:=(ds[i]?).bind (·.o.dst)
def rL (fr:Tr AV):Option Pth→AV→Tr AV
  | some d,v=>fr.put d v
  | none,_=>fr
omit envI in
theorem xSf (s:St) (d:Option Pth) (v:AV):(s.put d v).fr=rL s.fr d v:=by cases d<;>rfl
omit envI in
theorem xGj (s:St) (d:Option Pth) (v:AV):(s.put d v).h=s.h:=by cases d<;>rfl
def xK9 (ds:List DOper) (f:Nat→DSt) (i:Nat):AV :=
  match nH ds i with
  | some t=>((f (i+1)).s.fr.get t).getD .nilp
  | none=>.nilp
def kF (ds:List DOper) (f:Nat→DSt) (D:Nat→Bool):Nat→Tr AV
  | 0=>(f 0).s.fr
  | i+1=>bif D i then rL (kF ds f D i) (nH ds i) (xK9 ds f i) else kF ds f D i
def mJ (s:St):List ADef×Rc×Option Pth×Pth:=(s.df,s.rc,s.rd,s.fnid)
omit envI in
theorem wJ (s:St) (d:Option Pth) (v:AV):mJ (s.put d v)=mJ s:=by cases d<;>rfl
omit envI in
theorem xTo {s s':St} (h:mJ s=mJ s') (fr:Tr AV) (hp:H):({ s with fr:=fr,h:=hp }:St)={ s' with fr:=fr,h:=hp }:=by
  obtain ⟨a,b,c,d,e,g⟩:=s
  obtain ⟨a',b',c',d',e',g'⟩:=s'
  simp only [mJ,Prod.mk.injEq] at h
  obtain ⟨rfl,rfl,rfl,rfl⟩:=h
  rfl
structure DC (P:Program) (X:Ctx) (N:Nat) (ops:Array Oper) (ds:List DOper) (call:jA) (id0:Pth) (s0:St) (f:Nat→DSt) (m:Nat):Prop where
  mle:m≤ops.size
  comp:∀ (i:Nat) (o:Oper),ops[i]?=some o→∃ d:DOper,ds[i]?=some d∧wG P N ops o=some d.o
  dlt:∀ (i:Nat) (d:DOper),ds[i]?=some d→i<ops.size
  edges:∀ (i:Nat) (o:Oper),ops[i]?=some o→∀ e∈o.after,Region.binds .any e=true→e.on<i
  write:∀ (i j:Nat) (d e:DOper) (t:Pth),ds[i]?=some d→ds[j]?=some e→i≠j→e.o.dst=some t→t∈tmpsOf d.o→(j<i→Anc ops i j)∧(i<j→Anc ops j i)
  chain:∀ (i j:Nat) (d e:DOper),ds[i]?=some d→ds[j]?=some e→d.chain=true→e.chain=true→j<i→Anc ops i j
  last:∀ (i j:Nat) (d:DOper),ds[i]?=some d→d.last=true→j<ops.size→i≠j→Anc ops i j
  makers:∀ (i:Nat) (d:DOper),ds[i]?=some d→∀ j:Nat,j∈d.makers→Anc ops i j
  lo:∀ (i:Nat) (d:DOper),ds[i]?=some d→d.chain=false→xS d.o.op=true→d.lo=0∨∃ e:DOper,0<d.lo∧ds[d.lo - 1]?=some e∧e.chain=true∧Anc ops i (d.lo - 1)
  hi:∀ (i:Nat) (d:DOper),ds[i]?=some d→d.chain=false→xS d.o.op=true→d.hi=ops.size∨∃ e:DOper,ds[d.hi]?=some e∧e.chain=true∧Anc ops d.hi i
  wide:∀ (i:Nat) (d:DOper),ds[i]?=some d→d.chain=false→xS d.o.op=true→d.wide=true→∀ (j:Nat) (e:DOper),ds[j]?=some e→e.chain=true→j<d.hi→∀ x:Nat,x∈e.makers→x∉d.makers
  narrow:∀ (i:Nat) (d:DOper),ds[i]?=some d→d.chain=false→xS d.o.op=true→d.wide=false→∀ (j:Nat) (e:DOper),ds[j]?=some e→e.chain=true→j<d.lo∨d.hi≤j
  f0:f 0={ s:=s0,hs:=[],pend:=[],log:=[] }
  did:∀ i:Nat,i<m→∃ (d:DOper) (v:AV),ds[i]?=some d∧Did X call d i (yJ i id0) (f i) v (f (i+1))
def jY (X:Ctx) (ds:List DOper) (f:Nat→DSt) (id0:Pth) (j:Nat) (p:Pend):Prop :=
  p.at_=j∧p.id=yJ j id0∧∃ (d:DOper) (v:AV) (vs:List AV),ds[j]?=some d∧d.chain=false∧xO d.o.op=true∧xI (f j).s.fr d.o.guard=some true∧xE X (f j).s.fr d.o.args=some vs∧jX d.o.op vs p.id=some (v,p.b)
def rO (ds:List DOper) (f:Nat→DSt) (c j:Nat):Prop:=∃ e:DOper,ds[c]?=some e∧e.chain=true∧xI (f c).s.fr e.o.guard=some true∧j∈e.makers
omit envI in
theorem jY.uniq {X:Ctx} {ds:List DOper} {f:Nat→DSt} {id0:Pth} {j:Nat} {p q:Pend} (h:jY X ds f id0 j p) (h':jY X ds f id0 j q):p=q:=by
  obtain ⟨h1,h2,d,v,vs,h3,_,_,_,h4,h5⟩:=h
  obtain ⟨g1,g2,d',v',vs',g3,_,_,_,g4,g5⟩:=h'
  cases h3.symm.trans g3
  cases h4.symm.trans g4
  rw [h2] at h5
  rw [g2] at g5
  have:=h5.symm.trans g5
  obtain ⟨a,b,c⟩:=p
  obtain ⟨a',b',c'⟩:=q
  simp only [Option.some.injEq,Prod.mk.injEq] at this h1 h2 g1 g2
  obtain ⟨_,rfl⟩:=this
  rw [h1,h2,g1,g2]
section
variable {P:Program} {X:Ctx} {N:Nat} {ops:Array Oper} {ds:List DOper} {call:jA} {id0:Pth} {s0:St} {f:Nat→DSt} {m:Nat}
omit envI in
theorem DC.dlen (dc:DC P X N ops ds call id0 s0 f m) {i:Nat} (h:i<ops.size):∃ d,ds[i]?=some d:=by
  obtain ⟨d,h1,_⟩:=dc.comp i ops[i] (by simp [h])
  exact ⟨d,h1⟩
omit envI in
theorem zHo {d:DOper} {i:Nat} {id:Pth} {D D':DSt} {v:AV} (h:Did X call d i id D v D'):D'.s.fr=rL D.s.fr d.o.dst v:=by
  cases h with
  | skip hw=>exact xSf _ _ _
  | chain hw he hc h1 h2 h3=>rw [xSf,h2]
  | maker hw he hc hm h1=>exact xSf _ _ _
  | read hw he hc hm h1 h2=>exact xSf _ _ _
omit envI in
theorem xZc {d:DOper} {i:Nat} {id:Pth} {v:AV} (hd:ds[i]?=some d) (h:Did X call d i id (f i) v (f (i+1))) (fr:Tr AV):rL fr (nH ds i) (xK9 ds f i)=rL fr d.o.dst v:=by
  have e:=zHo h
  simp only [xK9,nH,hd,Option.bind_some]
  cases hdst:d.o.dst with
  | none=>rfl
  | some t =>
    rw [hdst] at e
    simp only [e,rL,Tr.get_put,if_pos,Option.getD_some]
omit envI in
theorem DC.fr_succ (dc:DC P X N ops ds call id0 s0 f m) {i:Nat} (h:i<m):(f (i+1)).s.fr=rL (f i).s.fr (nH ds i) (xK9 ds f i):=by
  obtain ⟨d,v,hd,hdid⟩:=dc.did i h
  rw [xZc hd hdid,zHo hdid]
omit envI in
theorem DC.frOf_all (dc:DC P X N ops ds call id0 s0 f m) {D:Nat→Bool}:∀ {i:Nat},i≤m→(∀ j,j<i→D j=true)→kF ds f D i=(f i).s.fr
  | 0,_,_=>rfl
  | i+1,hi,hD=>by
    simp only [kF,hD i (by omega),cond_true]
    rw [dc.frOf_all (by omega) (fun j hj=>hD j (by omega)),dc.fr_succ (by omega)]
omit envI in
theorem xHt {D:Nat→Bool} {i:Nat}:∀ {n:Nat},i≤n→(∀ j,i≤j→j<n→D j=false)→kF ds f D n=kF ds f D i
  | 0, h, _ => by have:i=0:=by omega
                  subst this; rfl
  | n + 1,h,hD=>by
    by_cases e:i=n+1
    · rw [e]
    · simp only [kF,hD n (by omega) (by omega),cond_false]
      exact xHt (by omega) (fun j h1 h2=>hD j h1 (by omega))
omit envI in
theorem xUo {D D':Nat→Bool} {t:Pth}:∀ {n:Nat},(∀ j,j<n→D j≠D' j→nH ds j≠some t)→(kF ds f D n).get t=(kF ds f D' n).get t
  | 0,_=>rfl
  | n + 1,h=>by
    have ih:=xUo (D:=D) (D':=D') (t:=t) (n:=n) (fun j hj=>h j (by omega))
    have hp:∀ fr:Tr AV,nH ds n≠some t→(rL fr (nH ds n) (xK9 ds f n)).get t=fr.get t:=by
      intro fr hne
      cases hd:nH ds n with
      | none=>rfl
      | some u =>
        rw [hd] at hne
        simp only [rL,Tr.get_put]
        rw [if_neg (fun e=>hne (by rw [e]))]
    have hq:∀ fr fr':Tr AV,fr.get t=fr'.get t→(rL fr (nH ds n) (xK9 ds f n)).get t=(rL fr' (nH ds n) (xK9 ds f n)).get t:=by
      intro fr fr' e
      cases hd:nH ds n with
      | none=>exact e
      | some u=>simp only [rL,Tr.get_put,e]
    simp only [kF]
    cases h1:D n<;>cases h2:D' n<;>simp only [cond_true,cond_false]
    · exact ih
    · rw [hp _ (h n (by omega) (by rw [h1,h2]; simp))]; exact ih
    · rw [hp _ (h n (by omega) (by rw [h1,h2]; simp))]; exact ih
    · exact hq _ _ ih
def upd (D:Nat→Bool) (i:Nat):Nat→Bool:=fun j=>decide (j=i)||D j
omit envI in
theorem xAu (D:Nat→Bool) (i:Nat):upd D i i=true:=by simp [upd]
omit envI in
theorem upd_ne (D:Nat→Bool) {i j:Nat} (h:j≠i):upd D i j=D j:=by simp [upd,h]
omit envI in
theorem zTo (D:Nat→Bool) {i j:Nat} (h:D j=true):upd D i j=true:=by simp [upd,h]
omit envI in
theorem xUp {D:Nat→Bool} {i:Nat} (hi:D i=false):∀ {n:Nat},i<n→(∀ j,i<j→j<n→D j=true→∀ t,nH ds i=some t→nH ds j≠some t)→∀ t,
    (kF ds f (upd D i) n).get t=(rL (kF ds f D n) (nH ds i) (xK9 ds f i)).get t
  | 0,h,_,t=>by omega
  | n + 1, h, hw,t=>by
    by_cases e:i=n
    · subst e
      have : kF ds f (upd D i) i=kF ds f D i:=by
        have hh:∀ k,k≤i→kF ds f (upd D i) k=kF ds f D k:=by
          intro k
          induction k with
          | zero=>intro _; rfl
          | succ k ih=>intro hk; simp only [kF,upd_ne D (show k≠i from by omega),ih (by omega)]
        exact hh i (Nat.le_refl _)
      simp only [kF,xAu,cond_true,hi,cond_false,this]
    · have ih := xUp (n:=n) hi (by omega) (fun j h1 h2 h3=>hw j h1 (by omega) h3) t
      simp only [kF,upd_ne D (show n≠i from fun x=>e x.symm)]
      cases hD:D n with
      | false=>simp only [cond_false]; exact ih
      | true =>
        simp only [cond_true]
        cases hi':nH ds i with
        | none =>
          rw [hi'] at ih
          simp only [rL] at ih ⊢
          cases hn:nH ds n with
          | none=>exact ih
          | some u=>simp only [Tr.get_put,ih]
        | some u =>
          rw [hi'] at ih
          simp only [rL] at ih ⊢
          have hne:=hw n (by omega) (by omega) hD u hi'
          cases hn:nH ds n with
          | none=>exact ih
          | some u' =>
            have:u'≠u:=fun x=>hne (by rw [hn,x])
            simp only [Tr.get_put] at ih ⊢
            by_cases h1:t=u'
            · subst h1
              rw [if_pos rfl,if_neg this,if_pos rfl]
            · rw [if_neg h1,ih,if_neg h1]
omit envI in
theorem DC.heap_same (dc:DC P X N ops ds call id0 s0 f m) {a:Nat}:∀ {b:Nat},a≤b→b≤m→(∀ (j:Nat) (e:DOper),a≤j→j<b→ds[j]?=some e→e.chain=false)→(f a).s.h=(f b).s.h
  | 0, h, _, _ => by have:a=0:=by omega
                     rw [this]
  | b + 1,h,hb,hc=>by
    by_cases e:a=b+1
    · rw [e]
    · rw [dc.heap_same (b:=b) (by omega) (by omega) (fun j e h1 h2=>hc j e h1 (by omega))]
      obtain ⟨d,v,hd,hdid⟩:=dc.did b (by omega)
      have hch:=hc b d (by omega) (by omega) hd
      generalize hD':f (b+1)=D' at hdid
      cases hdid with
      | skip hw=>simp only [xGj]
      | chain hw he hc'=>rw [hc'] at hch; cases hch
      | maker=>simp only [xGj]
      | read=>simp only [xGj]
omit envI in
theorem DC.comps_same (dc:DC P X N ops ds call id0 s0 f m):∀ {i:Nat},i≤m→i<ops.size→mJ (f i).s=mJ s0
  | 0,_,_=>by rw [dc.f0]
  | i + 1,hi,hlt=>by
    have ih:=dc.comps_same (i:=i) (by omega) (by omega)
    obtain ⟨d,v,hd,hdid⟩:=dc.did i (by omega)
    generalize hD':f (i+1)=D' at hdid
    cases hdid with
    | skip hw=>simp only [wJ,ih]
    | @chain _ s1 _ hw he hc' h1 h2 h3 =>
      simp only [wJ]
      rcases h3 with h3 | h3
      · have:=(dc.last i (i+1) d hd h3 hlt (by omega)).lt dc.edges
        omega
      · rw [h3]; exact ih
    | maker=>simp only [wJ,ih]
    | read=>simp only [wJ,ih]
omit envI in
theorem DC.pend_text (dc:DC P X N ops ds call id0 s0 f m):∀ {i:Nat},i≤m→(∀ p∈(f i).pend,∃ j,j<i∧jY X ds f id0 j p∧∀ c,c<i→¬ rO ds f c j)∧(f i).pend.Pairwise (fun p q=>p.at_≠q.at_)
  | 0,_=>by rw [dc.f0]; exact ⟨by simp,by simp⟩
  | i + 1, hi=>by
    obtain ⟨ih,ihp⟩:=dc.pend_text (i:=i) (by omega)
    obtain ⟨d,v,hd,hdid⟩:=dc.did i (by omega)
    have hno:∀ p∈(f i).pend,(d.chain=true→xI (f i).s.fr d.o.guard=some true→∀ j,jY X ds f id0 j p→j∉d.makers)→∃ j,j<i+1∧jY X ds f id0 j p∧∀ c,c<i+1→¬ rO ds f c j:=by
      intro p hp hh
      obtain ⟨j,h1,h2,h3⟩:=ih p hp
      refine ⟨j,by omega,h2,fun c hc => ?_⟩
      by_cases e:c=i
      · subst e
        rintro ⟨e',g1,g2,g3,g4⟩
        cases hd.symm.trans g1
        exact hh g2 g3 j h2 g4
      · exact h3 c (by omega)
    have hdid0:=hdid
    generalize hD':f (i+1)=D' at hdid
    cases hdid with
    | skip hw=>exact ⟨fun p hp=>hno p hp (fun _ hw'=>by rw [hw] at hw'; cases hw'),ihp⟩
    | chain hw he hc' h1 h2 h3 =>
      refine ⟨fun p hp => ?_,ihp.sublist List.filter_sublist⟩
      simp only [gF,List.mem_filter] at hp
      refine hno p hp.1 (fun _ _ j hj => ?_)
      have:p.at_=j:=hj.1
      rw [← this]
      have:=hp.2
      simpa using this
    | @maker _ x vs hw he hc' hm h1 =>
      refine ⟨fun p hp => ?_,?_⟩
      · simp only [List.mem_cons] at hp
        rcases hp with rfl | hp
        · refine ⟨i,by omega,⟨rfl,rfl,d,_,vs,hd,hc',hm,hw,he,h1⟩,fun c hc => ?_⟩
          rintro ⟨e',g1,g2,g3,g4⟩
          have:=(dc.makers c e' g1 i g4).lt dc.edges
          omega
        · exact hno p hp (fun hx=>by rw [hc'] at hx; cases hx)
      · refine List.pairwise_cons.2 ⟨fun q hq => ?_,ihp⟩
        obtain ⟨j,h1,h2,_⟩:=ih q hq
        have:q.at_=j:=h2.1
        rw [this]
        show i≠j
        omega
    | read hw he hc' hm h1 h2=>exact ⟨fun p hp=>hno p hp (fun hx=>by rw [hc'] at hx; cases hx),ihp⟩
omit envI in
theorem DC.entries (dc:DC P X N ops ds call id0 s0 f m) {a:Nat}:∀ {b:Nat},a≤b→b≤m→∃ i h,(i,h)∈(b,(f b).s.h)::(f b).hs∧h=(f a).s.h∧a≤i∧i≤b∧∀ (j:Nat) (e:DOper),a≤j→j<i→ds[j]?=some e→e.chain=false
  | 0,h,_=>by
    have:a=0:=by omega
    subst this
    exact ⟨0,_,List.mem_cons_self,rfl,by omega,by omega,fun j e h1 h2=>by omega⟩
  | b + 1, h,hb=>by
    by_cases e:a=b+1
    · subst e
      exact ⟨b+1,_,List.mem_cons_self,rfl,by omega,by omega,fun j e h1 h2=>by omega⟩
    · obtain ⟨i,hp,h1,h2,h3,h4,h5⟩:=dc.entries (a:=a) (b:=b) (by omega) (by omega)
      obtain ⟨d,v,hd,hdid⟩:=dc.did b (by omega)
      cases hch:d.chain with
      | true =>
        have hhs:(f (b+1)).hs=(b,(f b).s.h)::(f b).hs:=by
          generalize hD':f (b+1)=D' at hdid
          cases hdid with
          | skip hw=>simp only [hch,cond_true]
          | chain=>rfl
          | maker hw he hc'=>rw [hch] at hc'; cases hc'
          | read hw he hc'=>rw [hch] at hc'; cases hc'
        exact ⟨i,hp,by rw [hhs]; exact List.mem_cons_of_mem _ h1,h2,h3,by omega,h5⟩
      | false =>
        have hhs:(f (b+1)).hs=(f b).hs∧(f (b+1)).s.h=(f b).s.h:=by
          generalize hD':f (b+1)=D' at hdid
          cases hdid with
          | skip hw=>simp only [hch,cond_false,xGj,and_self]
          | chain hw he hc'=>rw [hch] at hc'; cases hc'
          | maker=>exact ⟨rfl,xGj _ _ _⟩
          | read=>exact ⟨rfl,xGj _ _ _⟩
        rw [hhs.1,hhs.2]
        rcases List.mem_cons.1 h1 with h1 | h1
        · cases h1
          refine ⟨b+1,_,List.mem_cons_self,h2,by omega,by omega,fun j e g1 g2 g3 => ?_⟩
          by_cases ej:j=b
          · subst ej
            cases hd.symm.trans g3
            exact hch
          · exact h5 j e g1 (by omega) g3
        · exact ⟨i,hp,List.mem_cons_of_mem _ h1,h2,h3,by omega,h5⟩
omit envI in
theorem DC.log_text (dc:DC P X N ops ds call id0 s0 f m) {r:Nat} {l:Log} (hl:l∈(f (r+1)).log):∀ {i:Nat},r+1≤i→i≤m→l∈(f i).log
  | 0,h,_=>by omega
  | i + 1,h,hi=>by
    by_cases e:r=i
    · subst e; exact hl
    · have ih:=dc.log_text hl (i:=i) (by omega) (by omega)
      obtain ⟨d,v,hd,hdid⟩:=dc.did i (by omega)
      generalize hD':f (i+1)=D' at hdid
      cases hdid with
      | skip=>exact ih
      | chain=>exact ih
      | maker=>exact ih
      | read hw he hc' hm h1 h2 =>
        rcases h2 with ⟨_,h2⟩ | h2
        · rw [h2]; exact ih
        · rw [h2]; exact List.mem_cons_of_mem _ ih
omit envI in
theorem xK5 {l:Log}:∀ {hs:List (Nat×H)},qE l hs=true→∀ i h,(i,h)∈hs→l.lo≤i→i≤l.hi→xM (h.withP l.extra) l.op l.args=some l.res
  | [],_,i,h,hm,_,_=>by cases hm
  | (i',h')::hs,hr,i,h,hm,h1,h2=>by
    simp only [qE,Bool.and_eq_true] at hr
    rcases List.mem_cons.1 hm with hm | hm
    · cases hm
      have hw:(Nat.ble l.lo i'&&Nat.ble i' l.hi)=true:=by simp [h1,h2]
      rw [hw] at hr
      simp only [cond_true] at hr
      cases e:xM (h'.withP l.extra) l.op l.args with
      | none=>rw [e] at hr; simp at hr
      | some v=>rw [e] at hr; rw [AV.beq_eq _ _ hr.1]
    · exact xK5 hr.2 i h hm h1 h2
end
end Go.Abs
end
section
namespace Go.Abs
variable [envI:Env]
section
variable {P:Program} {X:Ctx} {N:Nat} {ops:Array Oper} {ds:List DOper} {call:jA} {id0:Pth} {s0:St} {f:Nat→DSt} {m:Nat} {b:Frame} {cs:List Frame}
  {ρ0:Nm} {h0:H} {w0:World}
theorem FR.congr {w:World} {ρ:Nm} {L:Nat→Prop} {fr fr':Tr AV} {tmps:Array Value} (h:FR w ρ L fr tmps) (e:∀ t,fr'.get t=fr.get t):FR w ρ L fr' tmps :=
  fun p a hp=>h p a ((e p).symm.trans hp)
structure DInv (P:Program) (X:Ctx) (N:Nat) (ops:Array Oper) (ds:List DOper) (id0:Pth) (s0:St) (f:Nat→DSt) (m:Nat) (b:Frame) (cs:List Frame) (ρ0:Nm) (h0:H) (w0:World)
    (D:Nat→Bool) (mm:Nat) (sB:St) (ρ:Nm) (a:Act) (w:World):Prop where
  closed:Closed ops D
  dm:∀ j,j<ops.size→D j=true→j<m
  mmle:mm≤m
  cut:∀ (j:Nat) (e:DOper),ds[j]?=some e→e.chain=true→(D j=true↔j<mm)
  sr:SR P X N b cs { sB with fr:=kF ds f D ops.size,h:=(f mm).s.h } ρ a w
  named:∀ j p,D j=true→jY X ds f id0 j p→∃ c,ρ p.id=some c
  pend:∀ j p,D j=true→jY X ds f id0 j p→(∀ c,c<mm→¬ rO ds f c j)→vK P w0.heap.size ρ (f mm).s.h w p
  inj:∀ j p j' p',D j=true→D j'=true→jY X ds f id0 j p→jY X ds f id0 j' p'→j≠j'→ρ p.id≠ρ p'.id
  res:∀ j,j<ops.size→D j=false→ρ.res (yJ j id0)
  res0:∀ id,ρ0.res id→ρ.res id
  sim:Sim0 ρ0 (Lv ρ0 h0) w0 ρ (Lv ρ (f mm).s.h) w
  full:(∀ j,j<ops.size→D j=true)→mJ sB=mJ (f ops.size).s
  open_:∀ j,j<ops.size→D j=false→mJ sB=mJ s0
structure Turn (ops:Array Oper) (D:Nat→Bool) (i:Nat):Prop where
  lt:i<ops.size
  no:D i=false
  pre:∀ o,ops[i]?=some o→∀ e∈o.after,Region.binds .any e=true→D e.on=true
omit envI in
theorem Turn.anc {D:Nat→Bool} {i j:Nat} (ht:Turn ops D i) (hD:Closed ops D) (h:Anc ops i j):D j=true:=h.closed hD ht.pre
omit envI in
theorem Turn.desc {D:Nat→Bool} {i j:Nat} (ht:Turn ops D i) (hD:Closed ops D) (h:Anc ops j i):D j=false:=by
  cases e:D j with
  | false=>rfl
  | true =>
    have:=h.closed hD (fun o ho e' he hb=>hD j o e ho e' he hb)
    rw [ht.no] at this; cases this
omit envI in
theorem Turn.closed {D:Nat→Bool} {i:Nat} (ht:Turn ops D i) (hD:Closed ops D):Closed ops (upd D i):=by
  intro j o hj ho e he hb
  by_cases hji:j=i
  · subst hji; exact zTo D (ht.pre o ho e he hb)
  · rw [upd_ne D hji] at hj
    exact zTo D (hD j o hj ho e he hb)
section
variable (dc:DC P X N ops ds call id0 s0 f m) {D:Nat→Bool} {mm:Nat} {sB:St} {ρ:Nm} {a:Act} {w:World} (iv:DInv P X N ops ds id0 s0 f m b cs ρ0 h0 w0 D mm sB ρ a w)
include dc iv
theorem DInv.get {i:Nat} (ht:Turn ops D i) (him:i≤m) {d:DOper} (hd:ds[i]?=some d) {t:Pth} (htm:t∈tmpsOf d.o):(kF ds f D ops.size).get t=(f i).s.fr.get t:=by
  have h1:kF ds f (fun j=>decide (j<i)) ops.size=(f i).s.fr:=by
    rw [xHt (i:=i) (by have:=ht.lt; omega) (fun j h1 h2=>by simp; omega)]
    exact dc.frOf_all him (fun j hj=>by simpa using hj)
  rw [← h1]
  refine xUo (fun j hj hne hdst=>hne ?_)
  by_cases e:j=i
  · subst e; rw [ht.no]; simp
  · obtain ⟨dj,hdj⟩:=dc.dlen hj
    have hdst':dj.o.dst=some t:=by simpa [nH,hdj] using hdst
    obtain ⟨g1,g2⟩:=dc.write i j d dj t hd hdj (fun x=>e x.symm) hdst' htm
    rcases Nat.lt_or_ge j i with h | h
    · rw [ht.anc iv.closed (g1 h)]; simp [h]
    · rw [ht.desc iv.closed (g2 (by omega))]; simp; omega
theorem DInv.wanted {i:Nat} (ht:Turn ops D i) (him:i≤m) {d:DOper} (hd:ds[i]?=some d):xI (kF ds f D ops.size) d.o.guard=xI (f i).s.fr d.o.guard:=by
  cases hg:d.o.guard with
  | none=>rfl
  | some p =>
    obtain ⟨t,want⟩:=p
    have:=iv.get dc ht him hd (t:=t) (by simp [tmpsOf,hg])
    simp only [xI,this]
theorem DInv.args {i:Nat} (ht:Turn ops D i) (him:i≤m) {d:DOper} (hd:ds[i]?=some d):xE X (kF ds f D ops.size) d.o.args=xE X (f i).s.fr d.o.args:=by
  have key:∀ l:List Opd,(∀ t,Opd.tmp t∈l→t∈tmpsOf d.o)→xE X (kF ds f D ops.size) l=xE X (f i).s.fr l:=by
    intro l
    induction l with
    | nil=>intro _; rfl
    | cons o l ih =>
      intro hl
      have h1:xZ X (kF ds f D ops.size) o=xZ X (f i).s.fr o:=by
        cases o with
        | tmp t=>exact iv.get dc ht him hd (hl t List.mem_cons_self)
        | const v=>rfl
        | glob g=>rfl
      simp only [xE,h1,ih (fun t ht=>hl t (List.mem_cons_of_mem _ ht))]
  refine key _ (fun t hm => ?_)
  simp only [tmpsOf,List.mem_append,List.mem_filterMap]
  exact .inl (.inl ⟨.tmp t,hm,rfl⟩)
theorem DInv.fr_upd {i:Nat} (ht:Turn ops D i) {d:DOper} (hd:ds[i]?=some d) {v:AV} (hdid:Did X call d i (yJ i id0) (f i) v (f (i+1))) (t:Pth) :
    (kF ds f (upd D i) ops.size).get t=(rL (kF ds f D ops.size) d.o.dst v).get t:=by
  rw [xUp ht.no ht.lt (fun j h1 h2 h3 t h4 h5 => ?_),xZc hd hdid]
  obtain ⟨dj,hdj⟩:=dc.dlen h2
  have hdst:dj.o.dst=some t:=by simpa [nH,hdj] using h5
  have hi:d.o.dst=some t:=by simpa [nH,hd] using h4
  have:=(dc.write i j d dj t hd hdj (by omega) hdst (by simp [tmpsOf,hi])).2 h1
  rw [ht.desc iv.closed this] at h3; cases h3
theorem DInv.not_all {i:Nat} (ht:Turn ops D i):mJ sB=mJ s0:=by
  have _:=dc
  exact iv.open_ i ht.lt ht.no
theorem DInv.comps_end {i:Nat} (ht:Turn ops D i) (hall:∀ j,j<ops.size→upd D i j=true) (hi:i+1<ops.size):mJ (f ops.size).s=mJ s0:=by
  have hn:ops.size - 1<ops.size:=by omega
  have hDn:D (ops.size - 1)=true:=by
    have:=hall _ hn
    rwa [upd_ne D (by omega)] at this
  have hm:=iv.dm _ hn hDn
  obtain ⟨d,v,hd,hdid⟩:=dc.did _ hm
  have ih:=dc.comps_same (i:=ops.size - 1) (by omega) hn
  have e:ops.size - 1+1=ops.size:=by omega
  rw [e] at hdid
  generalize hD':f ops.size=D' at hdid
  cases hdid with
  | skip=>simp only [wJ,ih]
  | @chain _ s1 _ hw he hc' h1 h2 h3 =>
    simp only [wJ]
    rcases h3 with h3 | h3
    · have h4:=dc.last _ i d hd h3 ht.lt (by omega)
      have:=h4.closed iv.closed (fun o ho e' he' hb=>iv.closed _ o hDn ho e' he' hb)
      rw [ht.no] at this; cases this
    · rw [h3]; exact ih
  | maker=>simp only [wJ,ih]
  | read=>simp only [wJ,ih]
theorem DInv.chain_lt {i:Nat} (ht:Turn ops D i) {d:DOper} (hd:ds[i]?=some d) (hc:d.chain=true) {j:Nat} {e:DOper} (hj:ds[j]?=some e) (he:e.chain=true):j<mm↔j<i:=by
  rw [← iv.cut j e hj he]
  constructor
  · intro h
    rcases Nat.lt_or_ge j i with h' | h'
    · exact h'
    · by_cases ej:j=i
      · subst ej; rw [ht.no] at h; cases h
      · rw [ht.desc iv.closed (dc.chain j i e d hj hd he hc (by omega))] at h; cases h
  · intro h
    exact ht.anc iv.closed (dc.chain i j d e hd hj hc he h)
theorem DInv.chain_heap {i:Nat} (ht:Turn ops D i) (him:i≤m) {d:DOper} (hd:ds[i]?=some d) (hc:d.chain=true):(f mm).s.h=(f i).s.h:=by
  have hmi:mm≤i:=by
    rcases Nat.lt_or_ge i mm with h | h
    · have:=(iv.cut i d hd hc).2 h
      rw [ht.no] at this; cases this
    · exact h
  refine dc.heap_same hmi him (fun j e h1 h2 h3 => ?_)
  cases he:e.chain with
  | false=>rfl
  | true=>have:=(iv.chain_lt dc ht hd hc h3 he).2 h2; omega
end
end
end Go.Abs
end
section
namespace Go.Abs
variable [envI:Env]
section
variable {P:Program} {X:Ctx} {N:Nat} {b:Frame} {cs:List Frame} {s:St} {ρ ρ':Nm} {a:Act} {w:World} {L L':Nat→Prop}
theorem DfR.relive (hf:ρ'.f=ρ.f) (he:ρ'.base=ρ.base) (hl:∀ b,ρ.base b→L' b→L b):∀ {l:List ADef} {ds:List Deferred},DfR w ρ L l ds→DfR w ρ' L' l ds
  | [],ds,h=>h
  | .coll id::l,ds,h=>by
    obtain ⟨b,ds',h1,h2,h3⟩:=h
    exact ⟨b,ds',h1,by rw [hf]; exact h2,DfR.relive hf he hl h3⟩
  | .call f as1::l,ds,h=>by
    obtain ⟨fn,x,y,avs,ds',h1,h2,h3,h4⟩:=h
    exact ⟨fn,x,y,avs,ds',h1,h2.relive hf he hl,h3.relive hf he hl,DfR.relive hf he hl h4⟩
theorem RcR.relive (hf:ρ'.f=ρ.f) (he:ρ'.base=ρ.base) (hl:∀ b,ρ.base b→L' b→L b) {rc:Rc} (h:RcR w ρ L b cs rc):RcR w ρ' L' b cs rc:=by
  cases rc with
  | no=>exact h
  | pan v =>
    obtain ⟨h1,c,rest,vv,older,h2,h3,h4⟩:=h
    exact ⟨h1,c,rest,vv,older,h2,h3,h4.relive hf he hl⟩
  | recovered=>exact h
theorem SR.relive (h:SR P X N b cs s ρ a w) {h':H} (hf:ρ'.f=ρ.f) (he:ρ'.base=ρ.base) (hr:HR P X ρ' h' w) (hl:∀ b,ρ.base b→Lv ρ' h' b→Lv ρ s.h b):SR P X N b cs { s with h:=h' } ρ' a w where
  hr:=hr
  fr:=h.fr.relive hf he hl
  size:=h.size
  df:=h.df.relive hf he hl
  rc:=h.rc.relive hf he hl
  rd := by
    have:=h.rd
    cases hd:s.rd with
    | none=>rw [hd] at this; exact this
    | some id =>
      rw [hd] at this
      obtain ⟨l,h1,h2⟩:=this
      exact ⟨l,h1,by rw [hf]; exact h2⟩
  fn:=h.fn
omit envI in
theorem Sim0.on {ρ0 ρ1:Nm} {L0 L1 Lm:Nat→Prop} {w0 w1:World} (h:Sim0 ρ0 L0 w0 ρ L w) (hm:∀ c,c<w0.heap.size→Lm c→L c) (h':Sim0 ρ Lm w ρ1 L1 w1):Sim0 ρ0 L0 w0 ρ1 L1 w1 where
  base:=fun b x=>h'.base b (h.base b x)
  baseN:=fun b hb x=>h.baseN b hb (h'.baseN b (Nat.lt_of_lt_of_le hb h.size) x)
  names:=fun id b e=>h'.names id b (h.names id b e)
  size:=Nat.le_trans h.size h'.size
  same:=fun b hb hl=>(h'.same b (Nat.lt_of_lt_of_le hb h.size) (fun x=>hl (h.live b hb (hm b hb x)))).trans (h.same b hb hl)
  cells:=fun b hb=>(h.cells b hb).trans (h'.cells b (Nat.lt_of_lt_of_le hb h.size))
  live:=fun b hb x=>h.live b hb (hm b hb (h'.live b (Nat.lt_of_lt_of_le hb h.size) x))
  os:=h'.os.trans h.os
  output:=h'.output.trans h.output
  tape:=h'.tape.trans h.tape
end
section
variable {P:Program} {X:Ctx} {N:Nat} {ops:Array Oper} {ds:List DOper} {call:jA} {id0:Pth} {s0:St} {f:Nat→DSt} {m:Nat} {b:Frame} {cs:List Frame}
  {ρ0:Nm} {h0:H} {w0:World}
variable (dc:DC P X N ops ds call id0 s0 f m) {D:Nat→Bool} {mm:Nat} {sB:St} {ρ:Nm} {a:Act} {w:World} (iv:DInv P X N ops ds id0 s0 f m b cs ρ0 h0 w0 D mm sB ρ a w)
include dc iv
theorem DInv.takes {i:Nat} (ht:Turn ops D i) (him:i≤m) {d:DOper} (hd:ds[i]?=some d) (hab:∀ c j,c<mm→rO ds f c j→j∈d.makers→c<i) :
    (∀ p∈zT d.makers (f i).pend,vK P w0.heap.size ρ (f mm).s.h w p)∧(zT d.makers (f i).pend).Pairwise (fun p q=>ρ p.id≠ρ q.id) ∧
    (∀ p∈zT d.makers (f i).pend,∃ j,j∈d.makers∧D j=true∧jY X ds f id0 j p):=by
  obtain ⟨h1,h2⟩:=dc.pend_text him
  have key:∀ p∈zT d.makers (f i).pend,∃ j,j∈d.makers∧D j=true∧jY X ds f id0 j p∧∀ c,c<mm→¬ rO ds f c j:=by
    intro p hp
    simp only [zT,List.mem_filter] at hp
    obtain ⟨j,g1,g2,g3⟩:=h1 p hp.1
    have hj:j∈d.makers:=by
      have e:p.at_=j:=g2.1
      rw [← e]
      simpa using hp.2
    exact ⟨j,hj,ht.anc iv.closed (dc.makers i d hd j hj),g2,fun c hc hx=>g3 c (hab c j hc hx hj) hx⟩
  refine ⟨fun p hp => ?_,?_,fun p hp => ?_⟩
  · obtain ⟨j,g1,g2,g3,g4⟩:=key p hp
    exact iv.pend j p g2 g3 g4
  · refine List.Pairwise.imp_of_mem ?_ (h2.sublist List.filter_sublist)
    intro p q hp hq hne
    obtain ⟨j,g1,g2,g3,g4⟩:=key p hp
    obtain ⟨j',k1,k2,k3,k4⟩:=key q hq
    refine iv.inj j p j' q g2 k2 g3 k3 (fun e=>hne ?_)
    rw [g3.1,k3.1,e]
  · obtain ⟨j,g1,g2,g3,_⟩:=key p hp
    exact ⟨j,g1,g2,g3⟩
theorem DInv.read_val (hlog:∀ l∈(f m).log,qE l ((m,(f m).s.h)::(f m).hs)=true) {i:Nat} (ht:Turn ops D i) (him:i<m) {d:DOper} (hd:ds[i]?=some d) (hc:d.chain=false) {vs:List AV} {v:AV}
    (h1:xM ((f i).s.h.withP (zT d.makers (f i).pend)) d.o.op vs=some v)
    (h2:(xS d.o.op&&d.wide)=false∨(⟨d.o.op,vs,v,d.lo,d.hi,zT d.makers (f i).pend⟩:Log)∈(f (i+1)).log) :
    ∃ ps,(∀ p∈ps,vK P w0.heap.size ρ (f mm).s.h w p)∧ps.Pairwise (fun p q=>ρ p.id≠ρ q.id)∧xM ((f mm).s.h.withP ps) d.o.op vs=some v:=by
  cases hs:xS d.o.op with
  | false=>exact ⟨[],by simp,by simp,by rw [xSm hs _ ((f i).s.h.withP (zT d.makers (f i).pend))]; exact h1⟩
  | true =>
    have hlo:d.lo≤mm∧∀ j e,ds[j]?=some e→e.chain=true→j<d.lo→D j=true:=by
      rcases dc.lo i d hd hc hs with e | ⟨e,g1,g2,g3,g4⟩
      · exact ⟨by omega,fun j e h1 h2 h3=>by omega⟩
      · have hD:=ht.anc iv.closed g4
        have:=(iv.cut _ e g2 g3).1 hD
        refine ⟨by omega,fun j e' k1 k2 k3 => ?_⟩
        exact (iv.cut j e' k1 k2).2 (by omega)
    have hhi:∀ j e,ds[j]?=some e→e.chain=true→d.hi≤j→D j=false:=by
      intro j e k1 k2 k3
      rcases dc.hi i d hd hc hs with e' | ⟨e',g1,g2,g3⟩
      · have:=dc.dlt j e k1; omega
      · have hD:=ht.desc iv.closed g3
        cases hDj:D j with
        | false=>rfl
        | true =>
          have:=(iv.cut j e k1 k2).1 hDj
          have h:=(iv.cut _ e' g1 g2).2 (by omega)
          rw [hD] at h; cases h
    have hlt:∀ j e,ds[j]?=some e→e.chain=true→j<mm→j<d.hi:=by
      intro j e k1 k2 k3
      rcases Nat.lt_or_ge j d.hi with h | h
      · exact h
      · have:=hhi j e k1 k2 h
        rw [(iv.cut j e k1 k2).2 k3] at this; cases this
    cases hw:d.wide with
    | false =>
      have hiff:∀ j e,ds[j]?=some e→e.chain=true→(j<mm↔j<i):=by
        intro j e k1 k2
        rw [← iv.cut j e k1 k2]
        rcases dc.narrow i d hd hc hs hw j e k1 k2 with h | h
        · refine ⟨fun _ => ?_,fun _=>hlo.2 j e k1 k2 h⟩
          rcases dc.lo i d hd hc hs with e' | ⟨e',g1,g2,g3,g4⟩
          · omega
          · have:=g4.lt dc.edges; omega
        · refine ⟨fun hD => ?_,fun hji => ?_⟩
          · rw [hhi j e k1 k2 h] at hD; cases hD
          · exfalso
            rcases dc.hi i d hd hc hs with e' | ⟨e',g1,g2,g3⟩
            · have:=dc.dlt j e k1; omega
            · have:=g3.lt dc.edges; omega
      have hheap:(f mm).s.h=(f i).s.h:=by
        rcases Nat.le_total mm i with h | h
        · refine dc.heap_same h (by omega) (fun j e k1 k2 k3 => ?_)
          cases he:e.chain with
          | false=>rfl
          | true=>have:=(hiff j e k3 he).2 k2; omega
        · refine (dc.heap_same h iv.mmle (fun j e k1 k2 k3 => ?_)).symm
          cases he:e.chain with
          | false=>rfl
          | true=>have:=(hiff j e k3 he).1 k2; omega
      obtain ⟨g1,g2,_⟩:=iv.takes dc ht (by omega) hd (fun c j hc' ⟨e,k1,k2,_⟩ _=>(hiff c e k1 k2).1 hc')
      exact ⟨_,g1,g2,by rw [hheap]; exact h1⟩
    | true =>
      have hmem:(⟨d.o.op,vs,v,d.lo,d.hi,zT d.makers (f i).pend⟩:Log)∈(f m).log:=by
        rcases h2 with h2 | h2
        · rw [hs,hw] at h2; cases h2
        · exact dc.log_text h2 (by omega) (Nat.le_refl _)
      have hr:=hlog _ hmem
      obtain ⟨i',h,e1,e2,e3,e4,e5⟩:=dc.entries iv.mmle (Nat.le_refl _)
      have hv := xK5 hr i' h e1 (by show d.lo≤i'; omega) (by
        show i'≤d.hi
        rcases Nat.lt_or_ge d.hi i' with hx | hx
        · exfalso
          rcases dc.hi i d hd hc hs with e' | ⟨e',g1,g2,g3⟩
          · have:=dc.mle; omega
          · have hD:=ht.desc iv.closed g3
            have hge:mm≤d.hi:=by
              rcases Nat.lt_or_ge d.hi mm with h' | h'
              · have:=(iv.cut _ e' g1 g2).2 h'
                rw [hD] at this; cases this
              · exact h'
            have:=e5 d.hi e' hge hx g1
            rw [g2] at this; cases this
        · exact hx)
      obtain ⟨g1,g2,_⟩:=iv.takes dc ht (by omega) hd (fun c j hc' ⟨e,k1,k2,_,k4⟩ hj=>absurd hj (dc.wide i d hd hc hs hw c e k1 k2 (hlt c e k1 k2 hc') j k4))
      exact ⟨_,g1,g2,by rw [← e2]; exact hv⟩
theorem DInv.next {i:Nat} (ht:Turn ops D i) (him:i<m) {d:DOper} (hd:ds[i]?=some d) {v:AV} (hdid:Did X call d i (yJ i id0) (f i) v (f (i+1))) {mm':Nat} {ρ':Nm} {a':Act} {w':World} {sB':St}
    (hmm:mm'≤m) (hcut:∀ (j:Nat) (e:DOper),ds[j]?=some e→e.chain=true→(upd D i j=true↔j<mm'))
    (hsr:SR P X N b cs { sB' with fr:=rL (kF ds f D ops.size) d.o.dst v,h:=(f mm').s.h } ρ' a' w')
    (hnames:∀ id c,ρ id=some c→ρ' id=some c)
    (hnew:∀ p,jY X ds f id0 i p→(∃ c,ρ' p.id=some c∧w.heap.size≤c)∧vK P w0.heap.size ρ' (f mm').s.h w' p)
    (hpend:∀ j p,D j=true→jY X ds f id0 j p→(∀ c,c<mm'→¬ rO ds f c j)→vK P w0.heap.size ρ' (f mm').s.h w' p)
    (hres:∀ j,j<ops.size→j≠i→D j=false→ρ'.res (yJ j id0)) (hres0:∀ id,ρ0.res id→ρ'.res id)
    (hsim:Sim0 ρ0 (Lv ρ0 h0) w0 ρ' (Lv ρ' (f mm').s.h) w') (hcomps:mJ sB'=mJ (f (i+1)).s) :
    DInv P X N ops ds id0 s0 f m b cs ρ0 h0 w0 (upd D i) mm' sB' ρ' a' w' where
  closed:=ht.closed iv.closed
  dm := fun j hj hD=>by
    by_cases e:j=i
    · omega
    · rw [upd_ne D e] at hD; exact iv.dm j hj hD
  mmle:=hmm
  cut:=hcut
  sr:=⟨hsr.hr,hsr.fr.congr (iv.fr_upd dc ht hd hdid),hsr.size,hsr.df,hsr.rc,hsr.rd,hsr.fn⟩
  named:=fun j p hD hp=>by
    by_cases e:j=i
    · subst e
      obtain ⟨⟨c,h1,_⟩,_⟩:=hnew p hp
      exact ⟨c,h1⟩
    · rw [upd_ne D e] at hD
      obtain ⟨c,h1⟩:=iv.named j p hD hp
      exact ⟨c,hnames _ _ h1⟩
  pend:=fun j p hD hp hab=>by
    by_cases e:j=i
    · subst e; exact (hnew p hp).2
    · rw [upd_ne D e] at hD; exact hpend j p hD hp hab
  inj := fun j p j' p' hD hD' hp hp' hne=>by
    have old:∀ j p,j≠i→upd D i j=true→jY X ds f id0 j p→∃ c,ρ p.id=some c∧ρ' p.id=some c∧c<w.heap.size:=by
      intro j p e hD hp
      rw [upd_ne D e] at hD
      obtain ⟨c,h1⟩:=iv.named j p hD hp
      exact ⟨c,h1,hnames _ _ h1,iv.sr.hr.bound _ _ h1⟩
    by_cases e:j=i
    · obtain ⟨c',_,h2,h3⟩:=old j' p' (fun x=>hne (e.trans x.symm)) hD' hp'
      subst e
      obtain ⟨⟨c,h1,h4⟩,_⟩:=hnew p hp
      rw [h1,h2]
      intro x
      have:c=c':=Option.some.inj x
      omega
    · obtain ⟨c,h1,h2,h3⟩:=old j p e hD hp
      by_cases e':j'=i
      · subst e'
        obtain ⟨⟨c',h1',h4⟩,_⟩:=hnew p' hp'
        rw [h1',h2]
        intro x
        have:c=c':=Option.some.inj x
        omega
      · obtain ⟨c',h1',h2',_⟩:=old j' p' e' hD' hp'
        rw [upd_ne D e] at hD
        rw [upd_ne D e'] at hD'
        have:=iv.inj j p j' p' hD hD' hp hp' hne
        rw [h1,h1'] at this
        rw [h2,h2']
        exact this
  res:=fun j hj hD=>by
    by_cases e:j=i
    · subst e; rw [xAu] at hD; cases hD
    · rw [upd_ne D e] at hD; exact hres j hj e hD
  res0:=hres0
  sim:=hsim
  full := fun hall=>by
    by_cases e:i+1<ops.size
    · rw [hcomps,iv.comps_end dc ht hall e,dc.comps_same (by omega) e]
    · have:i+1=ops.size:=by have:=ht.lt; omega
      rw [hcomps,this]
  open_ := fun j hj hD=>by
    have hji:j≠i:=fun e=>by rw [e,xAu] at hD; cases hD
    rw [hcomps]
    by_cases e:i+1<ops.size
    · exact dc.comps_same (by omega) e
    · have ih:=dc.comps_same (i:=i) (by omega) ht.lt
      generalize hD':f (i+1)=D' at hdid
      cases hdid with
      | skip=>simp only [wJ,ih]
      | @chain _ s1 _ hw he hc' h1 h2 h3 =>
        simp only [wJ]
        rcases h3 with h3 | h3
        · have h4:=ht.anc iv.closed (dc.last i j d hd h3 hj (fun x=>hji x.symm))
          rw [upd_ne D hji,h4] at hD; cases hD
        · rw [h3]; exact ih
      | maker=>simp only [wJ,ih]
      | read=>simp only [wJ,ih]
end
end Go.Abs
end
end
