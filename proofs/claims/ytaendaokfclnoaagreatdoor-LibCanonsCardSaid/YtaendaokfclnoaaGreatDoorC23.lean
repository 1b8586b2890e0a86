/- Made types and arrangements; equal lists of strings. -/
import Derived.Test.YtaendaokfclnoaaGreatDoorC20
import Derived.Test.YtaendaokfclnoaaGreatDoorC21
import Derived.Test.YtaendaokfclnoaaGreatDoorC17
import Derived.KernelRfl
noncomputable section
section
namespace Go.Abs.Sym
open Go.Abs.T
open Go.Proofs
theorem xXf (L:Sl Int) (hL:L.l.length<9223372036854775808) (nm:List Nat):∃ cs gs,2≤cs.length∧cs.length≤6∧(∀ c∈cs,gY c)∧GOK cs.length gs∧∀ h,K3.sums t19 [slV inC L,.str nm] h=some (.agg (tyC (xBp nm cs gs))):=by
 obtain ⟨v,h1,hc,cs,gs,k1,k2,k3,k4,hd⟩:=yFe L hL nm
 refine ⟨cs,gs,k1,k2,k3,k4,fun h => ?_⟩
 have:=xSc (fz:=[t19,t20]) (dp:=[]) rfl hc (by simp only [frzs,yV xX1,frz,Bool.and_self]) (by rw [hd]; simp only [frz,vR]) h
 rw [hd] at this
 exact this
def xN (s:List Nat):List AV:=[.str s]
theorem rW (s:List Nat):(xN s).length=1:=rfl
theorem jU (s:List Nat):frzs (xN s)=true:=rfl
def xAm:Nat→List Nat
 | 0=>[97] | 1=>[98] | 2=>[99] | 3=>[100] | _=>[]
def zGs (r:List AV):Prop:=∃ x,x<5∧r=xN (xAm x)
theorem zGs.len {r:List AV} (h:zGs r):r.length=1:=by
 obtain ⟨s,_,rfl⟩:=h
 rfl
theorem xW3 {d:Nat} {h:H}:∀ rs:List (List AV),(∀ r∈rs,zGs r)→∃ l:List Nat,l.length=rs.length∧(∀ x∈l,x<5)∧rs.flatten.map (deep d h)=(l.map xAm).flatMap xN
 | [],_=>⟨[],rfl,fun _ h=>absurd h List.not_mem_nil,rfl⟩
 | r :: rs,hr=>by
  obtain ⟨x,hx,rfl⟩:=hr r List.mem_cons_self
  obtain ⟨l,h1,h2,h3⟩:=xW3 (d:=d) (h:=h) rs (fun x hx=>hr x (List.mem_cons_of_mem _ hx))
  refine ⟨x::l,by simp only [List.length_cons,h1],fun y hy => ?_,?_⟩
  ·rcases List.mem_cons.1 hy with rfl | hy
   ·exact hx
   ·exact h2 y hy
  ·rw [List.flatten_cons,List.map_append,h3]
   cases d<;>rfl
theorem xWe {t:Tr AB} {nx:Pth} {lo hi nb:Nat} {pv:AV} {rs:List (List AV)} (h0:0<rs.length) (hg:dV 1 t lo hi nb pv rs) (hr:∀ r∈rs,zGs r):∃ l:List Nat,l.length=rs.length∧(∀ x∈l,x<5)∧deep 8 ⟨nx,t,.lf⟩ pv=slV xN ⟨1,l.map xAm⟩:=by
 obtain ⟨l,h1,h2,h3⟩:=xW3 (d:=7) (h:=⟨nx,t,.lf⟩) rs hr
 refine ⟨l,h1,h2,?_⟩
 rcases hg with ⟨rfl,rfl,_⟩ | ⟨_,rfl,h5,_⟩
 ·exact absurd h0 (by simp)
 ·have htk:takeD rs.flatten 0 (rs.length*1)=some rs.flatten:=pW (xCb (Rw:=fun r=>r.length=1) (fun _ h=>h) rs (fun r h=>(hr r h).len))
  rw [xLw (xHm h5) htk,h3,xAr,List.length_map,h1]
def xPd (T:TypD) (L:Sl Int) (m:Nat) (s:St):Prop :=
 ∃ fr j t nb pv rs,s=⟨fr,[],⟨up .e j,t,.lf⟩,.no,none,t20⟩∧2≤j∧rs.length+m=T.pads.l.length ∧
  fr.get t2=some (.ptr (up .e 0) 0)∧fr.get t5=some (.ptr (up .e 1) 0)∧fr.get t6=some pv∧fr.get t7=some (.int .i64 (.ofNat rs.length)) ∧
  t.get (up .e 0)=some (.cells [.str T.nm,slV qP T.pads,slV jP T.gates] false)∧qY t (up .e 1) L∧dV 1 t 2 j nb pv rs∧(∀ r∈rs,zGs r)
set_option maxHeartbeats 1000000 in
theorem xXk (T:TypD) (hT:T.pads.l.length<90000) (L:Sl Int) (hL:L.l.length<9223372036854775808) (m:Nat) (s:St) (h:xPd T L m s) :
  Stp (xPd T L) (fun o=>∃ s,o=.exit 0 s∧xPd T L 0 s) m (xF K2 (xC K2 49) c20_l0 s):=by
 have h':=h
 obtain ⟨fr,j,t,nb,pv,rs,rfl,hj,hk,g2,g5,g6,g7,a0,ad,hg,hr⟩:=h
 have hnb:nb<j:=by
  rcases hg with ⟨_,_,h⟩ | ⟨_,_,_,_,h⟩<;>omega
 cases m with
 | zero =>
  have hkn:(rs.length<T.pads.l.length)=False:=eq_false (by omega)
  simp +decide (disch:=omega) only [c20_l0,xF,wK,xI,xE,xZ,yT,zH,qZ,zJ,zN,kA,jZ,H.cellsAt,wR,xBo,rM,rN,xG,St.put,Tr.get_put,if_true,if_false,cond_true,Nat.zero_add,yH,decide_true,decide_false,eqK,xT,Option.map_some,g2,g7,a0,qD,qV,hkn,xCd]
  refine ⟨_,rfl,_,j,t,nb,pv,rs,rfl,hj,hk,?_,?_,?_,?_,a0,ad,hg,hr⟩
  all_goals simp +decide only [Tr.get_put,g2,g5,g6,g7,if_false]
 | succ m =>
  have hkn:(rs.length<T.pads.l.length)=True:=eq_true (by omega)
  have hw:=xAd rs.length 1 (by omega)
  obtain ⟨x,p,j1,hN,hx,hj1,hp⟩:=xAn (n:=5) (by decide) (by decide) hL (j:=j+1) (q:=.e) rfl (ad.put (i:=1) (j:=j) (by omega) (.cells [.str [97],.str [98],.str [99],.str [100],e0] false))
  have hs:∃ st,x<5∧zF (.slc 1) (.slc (up .e j) 0 5 1 (some 5)) (.int .i64 (.ofNat x))=some (.ptr (up .e j) x)∧takeD [.str [97],.str [98],.str [99],.str [100],e0] x 1=some [.str st]∧st=xAm x:=by
   match x,hx with
   | 0,_=>exact ⟨[97],by decide,rfl,rfl,rfl⟩
   | 1,_=>exact ⟨[98],by decide,rfl,rfl,rfl⟩
   | 2,_=>exact ⟨[99],by decide,rfl,rfl,rfl⟩
   | 3,_=>exact ⟨[100],by decide,rfl,rfl,rfl⟩
   | 4,_=>exact ⟨[],by decide,rfl,rfl,rfl⟩
  obtain ⟨st,_,hi,hp',hst⟩:=hs
  simp +decide (disch:=omega) only [c20_l0,xF,wK,xI,xE,xZ,yT,zH,qZ,zJ,qW,zN,qK,kA,pL,xAs,jZ,H.cellsAt,H.newB,wR,xBo,rM,rN,setAt,mM,xA5,xG,St.put,Tr.get_put,if_true,if_false,cond_true,Nat.zero_add,Nat.zero_mul,Nat.one_mul,wC,wH,Bool.and_self,List.length,yH,nD,decide_true,Nat.reduceAdd,Nat.reduceMul,eqK,xT,Option.map_some,g2,g5,g6,g7,a0,qD,qV,hkn,hN,hi,hp']
  generalize hA:jD _ 1 16 _ _=A
  obtain ⟨t2,rfl,b1,b2,b3⟩:=dV.append (hg.keep (hi':=j1+1) (by omega) (fun _ _=>by simp +decide (disch:=omega) only [Tr.get_put,wH,if_false])) hA (sp:=false)
   (by rw [Tr.get_put,if_pos rfl]) rfl rfl (fun r h=>(hr r h).len) (by decide) (by omega) (by omega)
  have q0:=(b2 0 (by omega) (fun _ _=>by omega)).trans (by simp +decide (disch:=omega) only [Tr.get_put,wH,if_false]; exact a0)
  have q1:qY t2 (up .e 1) L:=by
   refine ⟨p,hp,(b2 1 (by omega) (fun _ _=>by omega)).trans ?_⟩
   simp +decide (disch:=omega) only [Tr.get_put,wH,if_true,if_false]
  simp +decide (disch:=omega) only [zH,zJ,xG,Tr.get_put,if_true,if_false,cond_true,yH,decide_true,eqK,xT,g7,hw,xA2]
  refine ⟨m,by omega,_,_,_,_,_,_,rfl,by omega,?_,?_,?_,?_,?_,q0,q1,b3,fun r h => ?_⟩
  ·rw [List.length_append]; simp only [List.length_cons,List.length_nil]; omega
  any_goals simp +decide (disch:=omega) only [Tr.get_put,g2,g5,List.length_append,List.length_cons,List.length_nil,if_true,if_false,Nat.zero_add]
  rcases List.mem_append.1 h with h | h
  ·exact hr r h
  ·rw [List.mem_singleton.1 h]; exact ⟨x,hx,by rw [hst]; rfl⟩
theorem yFg (T:TypD) (hp0:0<T.pads.l.length) (hT:T.pads.l.length<90000) (L:Sl Int) (hL:L.l.length<9223372036854775808):Ret (xC K2 50 (.fn t20 [] []) [.agg (tyC T),slV inC L] h0) (fun v h1=>∃ l:List Nat,l.length=T.pads.l.length∧(∀ x∈l,x<5)∧deep 8 h1 v=slV xN ⟨1,l.map xAm⟩):=by
 have hs:∀ xs,K2.sums t20 xs h0=none:=fun _=>rfl
 have hF:K2.funcs.get t20=some c20:=rfl
 refine bH (hs _) hF fun fr t ga gb => ?_
 rw [c20_eq]
 simp only [tyC] at ga
 simp +decide (disch:=omega) only [xF,wK,xI,xE,xZ,yT,zH,xIc,pK,H.newB,setAt,jO,nT,xRb,St.put,Tr.get_put,if_true,if_false,cond_true,Nat.zero_add,wC,Bool.and_self,List.length,yH,nD,decide_true,Nat.reduceAdd,Option.map_some,ga,gb,kf2]
 generalize hit:jQ (xF K2 (xC K2 49) c20_l0) 100000 _=o
 have ho:∃ s,o=.exit 0 s∧xPd T L 0 s:=by
  rw [← hit]
  refine kW (xPd T L) (fun o=>∃ s,o=.exit 0 s∧xPd T L 0 s) (fun m s h=>xXk T hT L hL m s h) 100000 T.pads.l.length _ ⟨_,2,_,0,.nils,[],rfl,by omega,by simp,?_,?_,?_,?_,?_,⟨0,Nat.zero_le _,?_⟩,.inl ⟨rfl,rfl,rfl⟩,fun _ h=>absurd h List.not_mem_nil⟩ (by omega)
  all_goals simp +decide (disch:=omega) only [Tr.get_put,if_true,if_false,List.length_nil]
 obtain ⟨s,rfl,hs⟩:=ho
 obtain ⟨fr,j,t,nb,pv,rs,rfl,hj,hk,g2,g5,g6,g7,a0,ad,hg,hr⟩:=hs
 simp +decide (disch:=omega) only [zH,Tr.get_put,if_true,if_false,cond_true,decide_true,pU,yO,qS,zQ,zB,g6]
 obtain ⟨l,q1,q2,q3⟩:=xWe (nx:=up .e j) (by omega) hg hr
 exact ⟨l,by omega,q2,q3⟩
theorem xNd (T:TypD) (hp0:0<T.pads.l.length) (hT:T.pads.l.length<90000) (L:Sl Int) (hL:L.l.length<9223372036854775808):∃ l:List Nat,l.length=T.pads.l.length∧(∀ x∈l,x<5)∧∀ h,K3.sums t20 [.agg (tyC T),slV inC L] h=some (slV xN ⟨1,l.map xAm⟩):=by
 obtain ⟨v,h1,hc,l,q1,q2,hf⟩:=yFg T hp0 hT L hL
 refine ⟨l,q1,q2,fun h => ?_⟩
 have:=xSc (fz:=[t19,t20]) (dp:=[]) rfl hc (by simp only [frzs,yV xX1,frz,vR,Bool.and_self]) (by rw [hf]; exact yV jU _) h
 rw [hf] at this
 exact this
theorem rV (x:List Nat) (r:List AV) (h:H):vJ h none (.rptr (xN x++r))=some (.str x):=rfl
theorem xCe (l:List (List Nat)):nC l=slV xN ⟨1,l⟩:=by
 rw [xAr]
 have:l.map AV.str=l.flatMap xN:=by
  induction l with
  | nil=>rfl
  | cons a l ih=>rw [List.map_cons,List.flatMap_cons,ih]; rfl
 rw [← this]
 rfl
theorem zXp (a b:Sl (List Nat)) (hl:a.l.length<90000):Ret (xC K0 50 (.fn t37 [] []) [slV xN a,slV xN b] h0) (fun v _=>v=.bool (decide (a.l=b.l))):=by
 have hs:∀ xs,K0.sums t37 xs h0=none:=fun _=>rfl
 have hF:K0.funcs.get t37=some c37:=rfl
 refine bH (hs _) hF fun fr t ga gb => ?_
 rw [c37_eq]
 by_cases hn:a.l.length=b.l.length
 ·have hne : eqI (.ofNat a.l.length) (.ofNat b.l.length)=true:=by rw [dP,hn]; exact decide_eq_true rfl
  simp +decide only [xF,wK,xI,xE,xZ,yT,zH,zJ,kA,xG,zG,St.put,Tr.get_put,if_true,if_false,cond_true,yH,decide_true,Bool.not_true,eqK,xT,yO,zQ,zB,Option.map_some,qD,hne,kf0,ga,gb]
  generalize hit:jQ (xF K0 (xC K0 49) c37_l0) 100000 _=o
  have hq : (∃ fr h,o=.exit 0 ⟨fr,[],h,.no,none,t37⟩∧a.l=b.l)∨(∃ fr h,o=.ret ⟨fr,[],h,.no,none,t37⟩∧fr.get t4=some (.bool false)∧a.l≠b.l):=by
   rw [← hit]
   refine kW (fun m s=>∃ fr h k,s=⟨fr,[],h,.no,none,t37⟩∧k+m=a.l.length∧a.l.take k=b.l.take k∧fr.get t0=some (slV xN a)∧fr.get t1=some (slV xN b)∧fr.get t11=some (slV xN a)∧fr.get t12=some (.int .i64 (.ofNat a.l.length))∧fr.get t13=some (.int .i64 (.ofNat k)))
    (fun o=>(∃ fr h,o=.exit 0 ⟨fr,[],h,.no,none,t37⟩∧a.l=b.l)∨(∃ fr h,o=.ret ⟨fr,[],h,.no,none,t37⟩∧fr.get t4=some (.bool false)∧a.l≠b.l)) ?_ 100000 a.l.length _ ?_ (by omega)
   ·rintro m s ⟨fr,h,k,rfl,hk,hpre,g0,g1,g11,g12,g13⟩
    cases m with
    | zero =>
     have hkn:(k<a.l.length)=False:=eq_false (by omega)
     simp +decide only [c37_l0,xF,wK,xI,xE,xZ,yT,zJ,xG,St.put,Tr.get_put,if_true,cond_true,yH,decide_true,decide_false,eqK,xT,g12,g13,qV,hkn,xCd]
     refine .inl ⟨_,_,rfl,?_⟩
     rwa [List.take_of_length_le (by omega),List.take_of_length_le (by omega)] at hpre
    | succ m =>
     have hkn:(k<a.l.length)=True:=eq_true (by omega)
     obtain ⟨x,hka⟩:∃ x,a.l[k]?=some x:=⟨_,List.getElem?_eq_getElem (by omega)⟩
     obtain ⟨y,hkb⟩:∃ y,b.l[k]?=some y:=⟨_,List.getElem?_eq_getElem (by omega)⟩
     have ia:=vL (f:=xN) (sz:=1) rW (by decide) hka
     have ib:=vL (f:=xN) (sz:=1) rW (by decide) hkb
     have hw:=xAd k 1 (by omega)
     by_cases he:x=y
     ·simp +decide only [c37_l0,xF,wK,xI,xE,xZ,yT,mK,jB,kD,xO,qM,yP,zX,dG,mH,rG,jL,zH,qZ,zJ,qK,xG,zG,St.put,Tr.get_put,if_true,if_false,cond_true,cond_false,Nat.zero_add,kZ,List.length,xS,quiet,yH,decide_true,Nat.reduceAdd,Bool.and_false,Bool.or_true,Bool.not_true,List.all,eqK,xT,Option.map_some,g0,g1,g12,g13,qV,hkn,ia,ib,rV,xCw,he,hw,xA2]
      refine ⟨m,by omega,_,_,k+1,rfl,by omega,?_,?_,?_,?_,?_,?_⟩
      ·rw [List.take_add_one,List.take_add_one,hpre,hka,hkb,he]
      all_goals simp +decide only [Tr.get_put,g0,g1,g11,g12,if_true,if_false]
     ·simp +decide only [c37_l0,xF,wK,xI,xE,xZ,yT,mK,jB,kD,xO,qM,yP,zX,dG,mH,rG,jL,zH,qZ,zJ,qK,xG,zG,St.put,Tr.get_put,if_true,if_false,cond_true,cond_false,Nat.zero_add,kZ,List.length,xS,quiet,yH,decide_true,decide_false,Nat.reduceAdd,Bool.and_false,Bool.or_true,Bool.not_false,List.all,eqK,xT,Option.map_some,g0,g1,g12,g13,qV,hkn,ia,ib,rV,xCw,he,xW2]
      refine .inr ⟨_,_,rfl,by simp +decide only [Tr.get_put,if_true,reduceIte],fun e=>he ?_⟩
      rw [e,hkb] at hka
      exact (Option.some.inj hka).symm
   ·refine ⟨_,_,0,rfl,by omega,rfl,?_,?_,?_,?_,?_⟩<;>simp +decide only [Tr.get_put,ga,gb,if_true,if_false]
  rcases hq with ⟨fr,h,rfl,hab⟩ | ⟨fr,h,rfl,h4,hab⟩
  ·simp +decide only [Tr.get_put,if_true,cond_true,decide_true,pU,qS,hab]
  ·simp +decide only [decide_false,pU,qS,hab,h4]
 ·have hne:eqI (.ofNat a.l.length) (.ofNat b.l.length)=false:=by rw [dP]; exact decide_eq_false (fun h=>hn (Int.ofNat.inj h))
  have hab:(a.l=b.l)=False:=eq_false (fun h=>hn (by rw [h]))
  simp +decide only [xF,wK,xI,xE,xZ,yT,zH,zJ,kA,xG,zG,St.put,Tr.get_put,if_true,if_false,cond_true,yH,decide_true,decide_false,Bool.not_false,eqK,xT,pU,yO,qS,zQ,zB,Option.map_some,qD,hne,hab,ga,gb]
theorem yFd (a:Sl (List Nat)) (hl:a.l.length<90000):Ret (xC K0 50 (.fn t36 [] []) [slV xN a,slV xN a] h0) (fun v _=>v=.bool false):=by
 have hs:∀ xs,K0.sums t36 xs h0=none:=fun _=>rfl
 have hF:K0.funcs.get t36=some c36:=rfl
 refine bH (hs _) hF fun fr t ga gb => ?_
 rw [c36_eq]
 simp +decide only [xF,wK,xI,xE,xZ,yT,zH,St.put,yH,yO,zQ,zB,kf0]
 generalize hit:jQ (xF K0 (xC K0 49) c36_l0) 100000 _=o
 have hq:∃ fr h,o=.exit 0 ⟨fr,[],h,.no,none,t36⟩∧fr.get t0=some (slV xN a)∧fr.get t1=some (slV xN a):=by
  rw [← hit]
  refine kW (fun m s=>∃ fr h k,s=⟨fr,[],h,.no,none,t36⟩∧k+m=a.l.length∧fr.get t0=some (slV xN a)∧fr.get t1=some (slV xN a)∧fr.get t5=some (.int .i64 (.ofNat k)))
   (fun o=>∃ fr h,o=.exit 0 ⟨fr,[],h,.no,none,t36⟩∧fr.get t0=some (slV xN a)∧fr.get t1=some (slV xN a)) ?_ 100000 a.l.length _ ?_ (by omega)
  ·rintro m s ⟨fr,h,k,rfl,hk,g0,g1,g5⟩
   cases m with
   | zero =>
    have hkn:(k<a.l.length)=False:=eq_false (by omega)
    simp +decide only [c36_l0,xF,wK,xI,xE,xZ,yT,zH,zJ,kQ,kA,xG,St.put,Tr.get_put,if_true,if_false,cond_true,cond_false,yH,decide_true,decide_false,eqK,xT,xDx,g0,g5,qD,qV,hkn,xCd]
    refine ⟨_,_,rfl,?_,?_⟩<;>simp +decide only [Tr.get_put,g0,g1,if_false]
   | succ m =>
    have hkn:(k<a.l.length)=True:=eq_true (by omega)
    obtain ⟨x,hka⟩:∃ x,a.l[k]?=some x:=⟨_,List.getElem?_eq_getElem (by omega)⟩
    have ia:=vL (f:=xN) (sz:=1) rW (by decide) hka
    have hw:=xAd k 1 (by omega)
    simp +decide only [c36_l0,xF,wK,xI,xE,xZ,yT,mK,jB,kD,xO,qM,yP,zX,dG,mH,rG,jL,zH,qZ,zJ,qK,kQ,kA,xG,zG,St.put,Tr.get_put,if_true,if_false,cond_true,cond_false,Nat.zero_add,kZ,List.length,xS,quiet,yH,decide_true,Nat.reduceAdd,Bool.and_false,Bool.or_true,Bool.not_true,List.all,eqK,xT,Option.map_some,beq_self_eq_true,g0,g1,g5,qD,qV,hkn,ia,rV,xCw,hw,xA2]
    refine ⟨m,by omega,_,_,k+1,rfl,by omega,?_,?_,?_⟩<;>simp +decide only [Tr.get_put,g0,g1,if_true,if_false]
  ·refine ⟨_,_,0,rfl,by omega,?_,?_,?_⟩<;>simp +decide only [Tr.get_put,ga,gb,if_true,if_false]
 obtain ⟨fr,h,rfl,g0,g1⟩:=hq
 have hkn:(a.l.length<a.l.length)=False:=eq_false (by omega)
 simp +decide only [zH,zJ,kA,xG,Tr.get_put,if_true,if_false,cond_true,yH,decide_true,decide_false,eqK,xT,pU,qS,g0,g1,qD,qV,hkn]
theorem xXc (a:Sl (List Nat)) (hl:a.l.length<90000) (h:H):K1.sums t36 [slV xN a,slV xN a] h=some (.bool false):=by
 obtain ⟨v,h1,hc,hv⟩:=yFd a hl
 rw [hv] at hc
 exact xAp rfl hc (by simp only [frzs,yV jU,Bool.and_self]) rfl h
theorem yG2 (a:Sl (List Nat)) (hl:a.l.length<90000):Ret (xC K1 50 (.fn t9 [] []) [slV xN a,slV xN a] h0) (fun v _=>v=.bool true):=by
 have hs:∀ xs,K1.sums t9 xs h0=none:=fun _=>rfl
 have hF:K1.funcs.get t9=some c9:=rfl
 refine bH (hs _) hF fun fr t ga gb => ?_
 have c1:∀ h,xC K1 49 (g t36) [slV xN a,slV xN a] h=.ret (.bool false) h:=fun h=>qF (xXc a hl h)
 simp +decide only [c9,xF,wK,xI,xE,xZ,yT,zH,xY9,qW,kQ,St.put,Tr.get_put,if_true,if_false,cond_true,Bool.not_false,pU,yO,qS,zQ,zB,beq_self_eq_true,ga,gb,c1]
theorem xY5 (a:Sl (List Nat)) (hl:a.l.length<90000) (h:H):K2.sums t9 [slV xN a,slV xN a] h=some (.bool true):=by
 obtain ⟨v,h1,hc,hv⟩:=yG2 a hl
 rw [hv] at hc
 exact xAp rfl hc (by simp only [frzs,yV jU,Bool.and_self]) rfl h
theorem zJ7 (n:Nat) (a:List Nat) (h:H):xC K0 (n+1) (g t143) [.str a] h=.ret (.bool false) h:=by
 rw [rQ (F:=c143) rfl rfl]
 simp +decide only [c143,xF,wK,xI,xE,xZ,yT,zH,zJ,xG,zG,St.put,Tr.get_put,yI,List.nil_append,List.append_nil,if_true,if_false,decide_true,Bool.not_true,yO,qS,zQ,zB,Option.map_some,yI,List.nil_append,List.append_nil,xCw,decide_true]
theorem yDr (n:Nat) (a b:List Nat) (h:H):xC K0 (n+2) (g t92) [.str a,.str b] h=.ret (.int .i64 (xBl a b)) h:=by
 rw [rQ (F:=c92) rfl rfl]
 have n1:=fun h=>zJ7 n a h
 have n2:=fun h=>zJ7 n b h
 have ht:=xC2 a b
 cases h1:xY a b with
 | true =>
  simp +decide only [c92,xF,wK,xI,xE,xZ,yT,zH,zJ,qW,xG,St.put,Tr.get_put,yI,Pth.succ,List.nil_append,List.append_nil,if_true,if_false,cond_true,yO,qS,zQ,zB,yI,Pth.succ,List.nil_append,List.append_nil,n1,n2,h1,xBl]
  rfl
 | false =>
  rw [h1] at ht
  cases h2:xY b a with
  | true =>
   have h3:eqS a b=false:=by
    rw [h2] at ht
    cases h:eqS a b with
    | false=>rfl
    | true=>rw [h] at ht; cases ht
   simp +decide only [c92,xF,wK,xI,xE,xZ,yT,zH,zJ,qW,xG,St.put,Tr.get_put,yI,Pth.succ,List.nil_append,List.append_nil,if_true,if_false,cond_true,cond_false,Bool.or_false,Bool.not_false,yO,qS,zQ,zB,yI,Pth.succ,List.nil_append,List.append_nil,n1,n2,h1,h2,h3,xBl]
   first | done | rfl
  | false =>
   have h3:eqS a b=true:=by
    rw [h2] at ht
    cases h:eqS a b with
    | true=>rfl
    | false=>rw [h] at ht; cases ht
   simp +decide only [c92,xF,wK,xI,xE,xZ,yT,zH,zJ,qW,xG,St.put,Tr.get_put,yI,Pth.succ,List.nil_append,List.append_nil,if_true,if_false,cond_false,Bool.or_true,Bool.not_true,yO,qS,zQ,zB,yI,Pth.succ,List.nil_append,List.append_nil,n1,n2,h1,h2,h3,xBl]
   first | done | rfl
theorem xRy (a b:Nat):leI (.ofNat a) (.ofNat b)=decide (a≤b):=by
 show Nat.ble a b=_
 exact nD a b
theorem zBo (a b:Sl (List Nat)) (hl:a.l.length<90000):Ret (xC K0 50 (.fn t62 [] []) [slV xN a,slV xN b] h0) (fun v _=>v=.int .i64 (cmpL a.l b.l)):=by
 have hs:∀ xs,K0.sums t62 xs h0=none:=fun _=>rfl
 have hF:K0.funcs.get t62=some c62:=rfl
 refine bH (hs _) hF fun fr t ga gb => ?_
 rw [c62_eq]
 simp +decide only [xF,wK,xI,xE,xZ,yT,zH,kA,St.put,Tr.get_put,if_true,if_false,yH,yO,zQ,zB,qD,kf0,ga]
 generalize hit:jQ (xF K0 (xC K0 49) c62_l0) 100000 _=o
 have hq : (∃ fr h,o=.exit 0 ⟨fr,[],h,.no,none,t62⟩∧fr.get t0=some (slV xN a)∧fr.get t1=some (slV xN b)∧a.l.length≤b.l.length∧cmpL [] (b.l.drop a.l.length)=cmpL a.l b.l)∨(∃ fr h,o=.ret ⟨fr,[],h,.no,none,t62⟩∧fr.get t4=some (.int .i64 (cmpL a.l b.l))):=by
  rw [← hit]
  refine kW (fun m s=>∃ fr h k,s=⟨fr,[],h,.no,none,t62⟩∧k+m=a.l.length∧k≤b.l.length∧cmpL (a.l.drop k) (b.l.drop k)=cmpL a.l b.l∧fr.get t0=some (slV xN a)∧fr.get t1=some (slV xN b)∧fr.get t9=some (slV xN a)∧fr.get t10=some (.int .i64 (.ofNat a.l.length))∧fr.get t11=some (.int .i64 (.ofNat k)))
   (fun o=>(∃ fr h,o=.exit 0 ⟨fr,[],h,.no,none,t62⟩∧fr.get t0=some (slV xN a)∧fr.get t1=some (slV xN b)∧a.l.length≤b.l.length∧cmpL [] (b.l.drop a.l.length)=cmpL a.l b.l)∨(∃ fr h,o=.ret ⟨fr,[],h,.no,none,t62⟩∧fr.get t4=some (.int .i64 (cmpL a.l b.l)))) ?_ 100000 a.l.length _ ?_ (by omega)
  ·rintro m s ⟨fr,h,k,rfl,hk,hkb,hpre,g0,g1,g9,g10,g11⟩
   cases m with
   | zero =>
    have hkn:(k<a.l.length)=False:=eq_false (by omega)
    have hke:k=a.l.length:=by omega
    simp +decide only [c62_l0,xF,wK,xI,xE,xZ,yT,zJ,xG,St.put,Tr.get_put,if_true,cond_true,yH,decide_true,decide_false,eqK,xT,g10,g11,qV,hkn,xCd]
    refine .inl ⟨_,_,rfl,?_,?_,by omega,?_⟩
    ·simp +decide only [Tr.get_put,g0,if_false]
    ·simp +decide only [Tr.get_put,g1,if_false]
    ·rw [hke,List.drop_length] at hpre
     exact hpre
   | succ m =>
    have hkn:(k<a.l.length)=True:=eq_true (by omega)
    obtain ⟨x,hka⟩:∃ x,a.l[k]?=some x:=⟨_,List.getElem?_eq_getElem (by omega)⟩
    have ia:=vL (f:=xN) (sz:=1) rW (by decide) hka
    have hw:=xAd k 1 (by omega)
    have hda:a.l.drop k=x::a.l.drop (k+1):=by
     rw [List.drop_eq_getElem_cons (by omega),(List.getElem?_eq_some_iff.1 hka).2]
    by_cases hb:k<b.l.length
    ·have hbn:(b.l.length≤k)=False:=eq_false (by omega)
     obtain ⟨y,hkb⟩:∃ y,b.l[k]?=some y:=⟨_,List.getElem?_eq_getElem hb⟩
     have ib:=vL (f:=xN) (sz:=1) rW (by decide) hkb
     have hdb:b.l.drop k=y::b.l.drop (k+1):=by
      rw [List.drop_eq_getElem_cons hb,(List.getElem?_eq_some_iff.1 hkb).2]
     have hc:=fun h=>yDr 47 x y h
     rw [hda,hdb,cmpL] at hpre
     by_cases he:xBl x y=0
     ·rw [if_pos he] at hpre
      simp +decide only [c62_l0,xF,wK,xI,xE,xZ,yT,zH,qZ,zJ,qW,qK,kA,xG,zG,St.put,Tr.get_put,if_true,if_false,cond_true,yH,decide_true,decide_false,Bool.not_true,eqK,xT,Option.map_some,g1,g9,g10,g11,qD,qV,xRy,hkn,hbn,ia,ib,rV,hc,dP,he,hw,xA2]
      refine ⟨m,by omega,_,_,k+1,rfl,by omega,by omega,hpre,?_,?_,?_,?_,?_⟩
      all_goals simp +decide only [Tr.get_put,g0,g1,g9,g10,if_true,if_false]
     ·rw [if_neg he] at hpre
      have he':(xBl x y=Int.ofNat 0)=False:=eq_false he
      simp +decide only [c62_l0,xF,wK,xI,xE,xZ,yT,zH,qZ,zJ,qW,qK,kA,xG,zG,St.put,Tr.get_put,if_true,if_false,cond_true,yH,decide_true,decide_false,Bool.not_false,eqK,xT,Option.map_some,g1,g9,g10,g11,qD,qV,xRy,hkn,hbn,ia,ib,rV,hc,dP,he',xW2]
      refine .inr ⟨_,_,rfl,?_⟩
      simp +decide only [Tr.get_put,hpre,if_true,if_false]
    ·have hbn:(b.l.length≤k)=True:=eq_true (by omega)
     rw [hda,show b.l.drop k=[] from List.drop_eq_nil_of_le (by omega),cmpL] at hpre
     simp +decide only [c62_l0,xF,wK,xI,xE,xZ,yT,zH,qZ,zJ,qK,kA,xG,St.put,Tr.get_put,if_true,if_false,cond_true,yH,decide_true,eqK,xT,g1,g9,g10,g11,qD,qV,xRy,hkn,hbn,ia,rV,xW2]
     refine .inr ⟨_,_,rfl,?_⟩
     simp +decide only [Tr.get_put,← hpre,if_true,if_false]
     rfl
  ·refine ⟨_,_,0,rfl,by omega,by omega,rfl,?_,?_,?_,?_,?_⟩<;>simp +decide only [Tr.get_put,ga,gb,if_true,if_false]
 rcases hq with ⟨fr,h,rfl,g0,g1,hle,hab⟩ | ⟨fr,h,rfl,h4⟩
 ·by_cases hlt:a.l.length<b.l.length
  ·have hn:cmpL a.l b.l = -1:=by
    rw [← hab,List.drop_eq_getElem_cons hlt,cmpL]
   have hkn:(a.l.length<b.l.length)=True:=eq_true hlt
   simp +decide only [zH,zJ,kA,xG,Tr.get_put,if_true,if_false,cond_true,yH,decide_true,eqK,xT,pU,qS,g0,g1,qD,qV,hkn,hn]
   rfl
  ·have hn:cmpL a.l b.l=0:=by
    rw [← hab,List.drop_eq_nil_of_le (by omega),cmpL]
   have hkn:(a.l.length<b.l.length)=False:=eq_false hlt
   simp +decide only [zH,zJ,kA,xG,Tr.get_put,if_true,if_false,cond_true,yH,decide_true,decide_false,eqK,xT,pU,qS,g0,g1,qD,qV,hkn,hn]
   rfl
 ·simp +decide only [pU,qS,h4]
end Go.Abs.Sym
end
section
namespace Go.Abs.Sym
open Go.Abs.T
open Go.Proofs
structure CaseD where
 ty:Sl Int
 nets:Sl Int
 other:Sl Int
 o0:Int
 o1:Int
 o2:Int
 s0:Nat
 s1:Nat
 gate:Bool
def dK (c:CaseD):List AV:=[slV inC c.ty,slV inC c.nets,slV inC c.other,.int .i64 c.o0,.int .i64 c.o1,.int .i64 c.o2,.int .u8 (.ofNat c.s0),.int .u8 (.ofNat c.s1),.bool c.gate]
def xHh (c:CaseD):Prop:=c.ty.l.length<9223372036854775808∧c.nets.l.length<9223372036854775808∧c.other.l.length<9223372036854775808∧c.s0<256∧c.s1<256
theorem xUr (c:CaseD):frzs (dK c)=true:=by
 simp only [dK,frzs,yV xX1,frz,Bool.and_self]
def K5:Ctx:=over K3 [t5,t12] []
theorem yR3 [Env]:Lev K5:=(((zBx.over _ _).over _ _).over _ _).over _ _
set_option maxHeartbeats 1000000 in
theorem yNl (c:CaseD) (hc:xHh c):Ret (xC K3 50 (.fn t5 [] []) [.agg (dK c)] h0) (fun v _=>∃ (cs:List (Nat×Nat×Nat)) (gs:List GateD) (n1 n2:List Nat),2≤cs.length∧cs.length≤6∧(∀ c∈cs,gY c)∧GOK cs.length gs ∧
  n1.length=cs.length∧n2.length=cs.length∧(∀ x∈n1,x<5)∧(∀ x∈n2,x<5)∧v=.tup [.agg (tyC (xBp [112,97,114,116] cs gs)),slV xN ⟨1,n1.map xAm⟩,slV xN ⟨1,n2.map xAm⟩]):=by
 have hs:∀ xs,K3.sums t5 xs h0=none:=fun _=>rfl
 have hF:K3.funcs.get t5=some c5:=rfl
 refine zHd (hs _) hF fun fr t ga => ?_
 obtain ⟨h1,h2,h3,_,_⟩:=hc
 obtain ⟨cs,gs,k1,k2,k3,k4,k6⟩:=xXf c.ty h1 [112,97,114,116]
 have hl:(xBp [112,97,114,116] cs gs).pads.l.length=cs.length:=mE 0 cs
 obtain ⟨n1,f1,f1',e1⟩:=xNd (xBp [112,97,114,116] cs gs) (by omega) (by omega) c.nets h2
 obtain ⟨n2,f2,f2',e2⟩:=xNd (xBp [112,97,114,116] cs gs) (by omega) (by omega) c.other h3
 rw [hl] at f1 f2
 refine ?_
 have key:∀ T:TypD,xBp [112,97,114,116] cs gs=T→Ret (yO (xA6 K3 49) c5 (xF K3 (xC K3 49) c5.body ⟨fr,[],⟨up .e 0,t,.lf⟩,.no,none,t5⟩)) (fun v _=>v=.tup [.agg (tyC T),slV xN ⟨1,n1.map xAm⟩,slV xN ⟨1,n2.map xAm⟩]):=by
  intro T hT
  rw [hT] at k6 e1 e2
  have c1:∀ h,xC K3 49 (g t19) [slV inC c.ty,.str [112,97,114,116]] h=.ret (.agg (tyC T)) h:=fun h=>qF (k6 h)
  have c2:∀ h,xC K3 49 (g t20) [.agg (tyC T),slV inC c.nets] h=.ret (slV xN ⟨1,n1.map xAm⟩) h:=fun h=>qF (e1 h)
  have c99003:∀ h,xC K3 49 (g t20) [.agg (tyC T),slV inC c.other] h=.ret (slV xN ⟨1,n2.map xAm⟩) h:=fun h=>qF (e2 h)
  simp only [dK] at ga
  simp only [tyC] at c1 c2 c99003 ⊢
  simp +decide only [c5,xF,wK,xI,xE,xZ,yT,mK,jB,kD,xO,qM,yP,zX,dG,mH,kY,zH,rH,xIc,qZ,jC,qW,zN,jZ,H.cellsAt,H.newB,wR,xBo,rM,rN,wW,setAt,mF,nT,xC6,xC5,St.put,Tr.get_put,if_true,if_false,cond_true,cond_false,Nat.zero_add,Nat.add_zero,kZ,xHb,wC,List.length,xS,quiet,qE,yH,nD,decide_true,decide_false,Nat.reduceAdd,Bool.and_true,Bool.and_false,Bool.or_true,List.all,pU,yO,qS,zQ,zB,Option.map_some,beq_rfl,Bool.and_self,ga,c1,c2,c99003]
 obtain ⟨v,h',e,hv⟩:=key _ rfl
 exact ⟨v,h',e,cs,gs,n1,n2,k1,k2,k3,k4,f1,f2,f1',f2',hv⟩
theorem zBy (c:CaseD) (hc:xHh c):∃ (cs:List (Nat×Nat×Nat)) (gs:List GateD) (n1 n2:List Nat),2≤cs.length∧cs.length≤6∧(∀ c∈cs,gY c)∧GOK cs.length gs ∧
  n1.length=cs.length∧n2.length=cs.length∧(∀ x∈n1,x<5)∧(∀ x∈n2,x<5)∧∀ h,K5.sums t5 [.agg (dK c)] h=some (.tup [.agg (tyC (xBp [112,97,114,116] cs gs)),slV xN ⟨1,n1.map xAm⟩,slV xN ⟨1,n2.map xAm⟩]):=by
 obtain ⟨v,h1,hc,cs,gs,n1,n2,k1,k2,k3,k4,f1,f2,f3,f4,rfl⟩:=yNl c hc
 exact ⟨cs,gs,n1,n2,k1,k2,k3,k4,f1,f2,f3,f4,fun h=>xAp rfl hc (by simp only [frzs,frz,xUr,Bool.and_self]) (by simp only [frzs,frz,vR,yV jU,Bool.and_self]) h⟩
theorem zZw (a m:Nat):(Int.ofNat a).tmod (Int.ofNat m)=Int.ofNat (a % m):=(Int.ofNat_tmod a m).symm
set_option maxHeartbeats 1000000 in
theorem yDs (c:CaseD) (hc:xHh c) (T:TypD) (h0p:0<T.pads.l.length) (_hl:T.pads.l.length<90000):Ret (xC K3 50 (.fn t12 [] []) [.agg (dK c),.agg (tyC T)] h0)
  (fun v _=>∃ (i j:Nat) (p q:PadD),T.pads.l[i]?=some p∧T.pads.l[j]?=some q∧v=.agg [.str [],.str p.nm,.str q.nm,.bool c.gate]):=by
 have hs:∀ xs,K3.sums t12 xs h0=none:=fun _=>rfl
 have hF:K3.funcs.get t12=some c12:=rfl
 refine bH (hs _) hF fun fr t ga gb => ?_
 obtain ⟨_,_,_,h4,h5⟩:=hc
 have hz:=xZw h0p
 have hi:=Nat.mod_lt c.s0 h0p
 have hj:=Nat.mod_lt c.s1 h0p
 obtain ⟨p,hp⟩:∃ p,T.pads.l[c.s0 % T.pads.l.length]?=some p:=⟨_,List.getElem?_eq_getElem hi⟩
 obtain ⟨q,hq⟩:∃ q,T.pads.l[c.s1 % T.pads.l.length]?=some q:=⟨_,List.getElem?_eq_getElem hj⟩
 have ip:=vL (f:=qP) (sz:=7) zA6 (by decide) hp
 have iq:=vL (f:=qP) (sz:=7) zA6 (by decide) hq
 have w0:zU .i64 (.ofNat c.s0)=.ofNat c.s0:=zTt (by simp only [Int.ofNat_eq_natCast]; omega) (by simp only [Int.ofNat_eq_natCast]; omega)
 have w1:zU .i64 (.ofNat c.s1)=.ofNat c.s1:=zTt (by simp only [Int.ofNat_eq_natCast]; omega) (by simp only [Int.ofNat_eq_natCast]; omega)
 have ia0:∀ id,zF (.arr 2 1) (.ptr id 6) i0=some (.ptr id 6):=fun _=>rfl
 have ia1:∀ id,zF (.arr 2 1) (.ptr id 6) i1=some (.ptr id 7):=fun _=>rfl
 have cv:∀ h n,(vH h (.int .i64) (.int .u8 n)).map (fun x=>x.1)=some (.int .i64 (zU .i64 n)):=fun _ _=>rfl
 simp only [dK] at ga
 simp only [tyC] at gb
 simp only [qP] at ip iq
 simp +decide only [c12,xF,wK,xI,xE,xZ,yT,mK,jB,kD,xO,qM,yP,zX,xGl,mH,rG,kY,xI9,jL,xF4,xSl,rH,xIc,qZ,jC,zJ,zN,qK,pK,xId,kA,xT3,jZ,xV3,H.cellsAt,H.newB,wR,xBo,rM,rN,wW,setAt,jO,mF,nT,xSb,xR9,xC6,xA5,xG,St.put,Tr.get_put,List.nil_append,List.cons_append,if_true,if_false,cond_true,cond_false,Nat.zero_add,kZ,xHb,wC,List.drop,List.length,xS,quiet,yH,nD,decide_true,Nat.reduceAdd,Nat.reduceLeDiff,Bool.and_true,Bool.and_false,Bool.or_true,List.all,eqK,xT,pU,yO,qS,zQ,zB,Option.map_some,Bool.and_self,Nat.add_assoc,ga,gb,qD,w0,w1,hz,zZw,ip,iq,ia0,ia1,cv]
 exact ⟨_,_,p,q,hp,hq,rfl⟩
theorem xQk {X:Ctx} {fz dp:List Pth} {f:Pth} (h1:xN9 f fz=false) (h2:xN9 f dp=false) (xs:List AV) (h:H):(over X fz dp).sums f xs h=X.sums f xs h:=by
 simp only [over,xF7,h1,h2,cond_false]
end Go.Abs.Sym
end
section
namespace Go.Abs.Sym
open Go.Abs.T
open Go.Proofs
theorem xXd:∀ y:List (List Nat),xV [] y=decide (0<y.length)
 | []=>rfl
 | _::_=>rfl
theorem xV7:∀ x:List (List Nat),xV x []=false
 | []=>rfl
 | _::_=>rfl
theorem drop_at {α:Type} {l:List α} {k:Nat} {x:α} (h:l[k]?=some x):l.drop k=x::l.drop (k+1):=by
 obtain ⟨hk,rfl⟩:=List.getElem?_eq_some_iff.1 h
 exact List.drop_eq_getElem_cons hk
def LsI (a b:Sl (List Nat)) (m:Nat) (s:St):Prop :=
 ∃ fr h k,s=⟨fr,[],h,.no,none,t36⟩∧k+m=a.l.length∧k≤b.l.length∧fr.get t0=some (slV xN a)∧fr.get t1=some (slV xN b)∧fr.get t5=some (.int .i64 (.ofNat k))∧xV a.l b.l=xV (a.l.drop k) (b.l.drop k)
def LsQ (a b:Sl (List Nat)) (o:Out):Prop :=
 (∃ fr h,o=.exit 0 ⟨fr,[],h,.no,none,t36⟩∧fr.get t0=some (slV xN a)∧fr.get t1=some (slV xN b)∧xV a.l b.l=decide (a.l.length<b.l.length)) ∨
  (∃ fr h,o=.ret ⟨fr,[],h,.no,none,t36⟩∧fr.get t4=some (.bool (xV a.l b.l)))
theorem zIw (a b:Sl (List Nat)) (hl:a.l.length<90000) (m:Nat) (s:St) (h:LsI a b m s):Stp (LsI a b) (LsQ a b) m (xF K0 (xC K0 49) c36_l0 s):=by
 obtain ⟨fr,h,k,rfl,hk,hkb,g0,g1,g5,hL⟩:=h
 cases m with
 | zero =>
  have hkn:(k<a.l.length)=False:=eq_false (by omega)
  simp +decide only [c36_l0,yF,g0,g5,qD,qV,hkn,xCd]
  refine .inl ⟨_,_,rfl,?_,?_,?_⟩
  ·simp +decide only [Tr.get_put,g0,if_false]
  ·simp +decide only [Tr.get_put,g1,if_false]
  ·rw [hL,List.drop_of_length_le (by omega),xXd,List.length_drop]
   have:(0<b.l.length - k)=(a.l.length<b.l.length):=propext ⟨fun _=>by omega,fun _=>by omega⟩
   simp only [this]
 | succ m =>
  have hkn:(k<a.l.length)=True:=eq_true (by omega)
  by_cases hb:k<b.l.length
  ·have hkm:(k<b.l.length)=True:=eq_true hb
   obtain ⟨x,hx⟩:∃ x,a.l[k]?=some x:=⟨_,List.getElem?_eq_getElem (by omega)⟩
   obtain ⟨y,hy⟩:∃ y,b.l[k]?=some y:=⟨_,List.getElem?_eq_getElem hb⟩
   have ia:=vL (f:=xN) (sz:=1) rW (by decide) hx
   have ib:=vL (f:=xN) (sz:=1) rW (by decide) hy
   have hw:=xAd k 1 (by omega)
   rw [drop_at hx,drop_at hy,xV] at hL
   cases he:eqS x y with
   | true =>
    rw [he] at hL
    simp +decide only [c36_l0,yF,Nat.reduceAdd,mK,jB,kD,xO,g0,g1,g5,qD,qV,hkn,hkm,ia,ib,rV,he,hw,xA2]
    refine ⟨m,by omega,_,_,k+1,rfl,by omega,by omega,?_,?_,?_,hL⟩<;>simp +decide only [Tr.get_put,g0,g1,if_true,if_false]
   | false =>
    rw [he] at hL
    simp +decide only [c36_l0,yF,Nat.reduceAdd,mK,jB,kD,xO,g0,g1,g5,qD,qV,hkn,hkm,ia,ib,rV,he,xW2]
    refine .inr ⟨_,_,rfl,?_⟩
    rw [hL]
    simp +decide only [Tr.get_put,if_true,if_false,cond_false]
  ·have hkm:(k<b.l.length)=False:=eq_false hb
   simp +decide only [c36_l0,yF,g0,g1,g5,qD,qV,hkn,hkm,xCd]
   refine .inl ⟨_,_,rfl,?_,?_,?_⟩
   ·simp +decide only [Tr.get_put,g0,if_false]
   ·simp +decide only [Tr.get_put,g1,if_false]
   ·rw [hL,List.drop_of_length_le (l:=b.l) (by omega),xV7]
    exact (decide_eq_false (by omega)).symm
theorem xV8 (a b:Sl (List Nat)) (hl:a.l.length<90000):Ret (xC K0 50 (.fn t36 [] []) [slV xN a,slV xN b] h0) (fun v _=>v=.bool (xV a.l b.l)):=by
 have hs:∀ xs,K0.sums t36 xs h0=none:=fun _=>rfl
 have hF:K0.funcs.get t36=some c36:=rfl
 refine bH (hs _) hF fun fr t ga gb => ?_
 rw [c36_eq]
 simp +decide only [yK,kf0]
 generalize hit:jQ (xF K0 (xC K0 49) c36_l0) 100000 _=o
 have hq:LsQ a b o:=by
  rw [← hit]
  refine kW (LsI a b) (LsQ a b) (fun m s h=>zIw a b hl m s h) 100000 a.l.length _ ⟨_,_,0,rfl,by omega,Nat.zero_le _,?_,?_,?_,rfl⟩ (by omega)<;>simp +decide only [Tr.get_put,ga,gb,if_true,if_false]
 rcases hq with ⟨fr,h,rfl,g0,g1,hL⟩ | ⟨fr,h,rfl,g4⟩
 ·rw [hL]
  simp +decide only [yM,g0,g1,qD,qV]
 ·simp +decide only [yM,g4]
theorem xV9 (a b:Sl (List Nat)) (hl:a.l.length<90000) (h:H):K1.sums t36 [slV xN a,slV xN b] h=some (.bool (xV a.l b.l)):=by
 obtain ⟨v,h1,hc,hv⟩:=xV8 a b hl
 rw [hv] at hc
 exact xAp rfl hc (by simp only [frzs,yV jU,Bool.and_self]) rfl h
theorem xN3:∀ x y:List (List Nat),(!xV x y && !xV y x)=decide (x=y)
 | [],[]=>rfl
 | [],_::_=>rfl
 | _::_,[]=>rfl
 | a :: x,b::y=>by
  have ih:=xN3 x y
  simp only [xV]
  cases h:eqS a b with
  | true =>
   have e:=qC.1 h
   subst e
   simp only [h,cond_true,ih,List.cons.injEq,true_and]
  | false =>
   have h':eqS b a=false:=by
    cases hb:eqS b a with
    | false=>rfl
    | true=>have:=qC.1 hb; subst this; rw [qC.2 rfl] at h; cases h
   have hne:¬ a=b:=fun e=>by subst e; rw [qC.2 rfl] at h; cases h
   rw [h',cond_false,cond_false]
   have ht:(!xY a b && !xY b a)=false:=by
    have h1:=xC2 a b
    rw [h,Bool.or_false] at h1
    rw [← h1]
    cases xY a b<;>rfl
   have:decide (a::x=b::y)=false:=decide_eq_false (fun e=>hne (List.cons.inj e).1)
   rw [this]
   exact ht
theorem yO2 (a b:Sl (List Nat)) (ha:a.l.length<90000) (hb:b.l.length<90000):Ret (xC K1 50 (.fn t9 [] []) [slV xN a,slV xN b] h0) (fun v _=>v=.bool (decide (a.l=b.l))):=by
 have hs:∀ xs,K1.sums t9 xs h0=none:=fun _=>rfl
 have hF:K1.funcs.get t9=some c9:=rfl
 refine bH (hs _) hF fun fr t ga gb => ?_
 have c1:∀ h,xC K1 49 (g t36) [slV xN a,slV xN b] h=.ret (.bool (xV a.l b.l)) h:=fun h=>qF (xV9 a b ha h)
 have c2:∀ h,xC K1 49 (g t36) [slV xN b,slV xN a] h=.ret (.bool (xV b.l a.l)) h:=fun h=>qF (xV9 b a hb h)
 rw [← xN3]
 cases h1:xV a.l b.l<;>cases h2:xV b.l a.l<;>rw [h1] at c1<;>rw [h2] at c2<;>simp +decide only [c9,yF,ga,gb,c1,c2]
theorem xOw (a:AV) (l:List AV):(a::l)[0]?=some a:=rfl
theorem xOx (a b:AV) (l:List AV):(a::b::l)[1]?=some b:=rfl
theorem yQr (a b c:AV) (l:List AV):(a::b::c::l)[2]?=some c:=rfl
theorem xY6 (a b:Sl (List Nat)) (ha:a.l.length<90000) (hb:b.l.length<90000):zP t9 [slV xN a,slV xN b] (.bool (decide (a.l=b.l))):=by
 obtain ⟨v,h1,hc,rfl⟩:=yO2 a b ha hb
 have lv:@Lev yU K1:=@Lev.over yU _ (@zBx yU) _ _
 exact kU (d:=0) (@Lev.ok yU _ lv) rfl hc (by simp only [frzs,yV jU,Bool.and_self]) rfl
theorem xWx (a b:Sl (List Nat)) (ha:a.l.length<90000):zP t37 [slV xN a,slV xN b] (.bool (decide (a.l=b.l))):=by
 obtain ⟨v,h1,hc,rfl⟩:=zXp a b ha
 exact kU (d:=0) (@Lev.ok yU _ (@zBx yU)) rfl hc (by simp only [frzs,yV jU,Bool.and_self]) rfl
theorem zBw (a b:Sl (List Nat)) (ha:a.l.length<90000):zP t36 [slV xN a,slV xN b] (.bool (xV a.l b.l)):=by
 obtain ⟨v,h1,hc,rfl⟩:=xV8 a b ha
 exact kU (d:=0) (@Lev.ok yU _ (@zBx yU)) rfl hc (by simp only [frzs,yV jU,Bool.and_self]) rfl
theorem xTm (a b:Sl (List Nat)) (ha:a.l.length<90000):zP t62 [slV xN a,slV xN b] (.int .i64 (cmpL a.l b.l)):=by
 obtain ⟨v,h1,hc,rfl⟩:=zBo a b ha
 exact kU (d:=0) (@Lev.ok yU _ (@zBx yU)) rfl hc (by simp only [frzs,yV jU,Bool.and_self]) rfl
theorem xRc:∀ x y:List (List Nat),(xV x y=true→cmpL x y = -1)∧(xV x y=false→0≤cmpL x y)
 | [],[]=>⟨fun h=>(by cases h),fun _=>by decide⟩
 | [],_::_=>⟨fun _=>rfl,fun h=>(by cases h)⟩
 | _::_,[]=>⟨fun h=>(by cases h),fun _=>by unfold cmpL; omega⟩
 | a :: x,b::y=>by
  have ih:=xRc x y
  by_cases e:a=b
  ·subst e
   have hc:xBl a a=0:=by unfold xBl; rw [xI1]; rfl
   simp only [xV,qC.2 rfl,cond_true,cmpL,hc,if_true]
   exact ih
  ·simp only [xV,vO e,cond_false]
   cases hl:xY a b with
   | true =>
    have hc:xBl a b = -1:=by unfold xBl; rw [hl]; rfl
    refine ⟨fun _ => ?_,fun h=>(by cases h)⟩
    unfold cmpL
    rw [hc]
    rfl
   | false =>
    have ht:=xC2 a b
    rw [hl,vO e] at ht
    have hc:xBl a b=1:=by unfold xBl; rw [hl,← ht]; rfl
    refine ⟨fun h=>(by cases h),fun _ => ?_⟩
    unfold cmpL
    rw [hc,if_neg (by decide)]
    omega
end Go.Abs.Sym
end
end
