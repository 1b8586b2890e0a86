/- A part of the proof that LibSwaps answers true at every input: AbsSym17, AbsSym18, AbsLp2, AbsSym19, AbsSym20. -/
import Derived.Test.YtaendaokfclnoaaGreatDoorC19
noncomputable section
section
section
namespace Go.Abs.Sym
open Go.Abs.T
open Go.Proofs
def xYk (nm:List Nat) (L:Sl Int) (many:Nat) (o:Out):Prop:=∃ s,o=.exit 0 s∧MadeI nm L many 0 s
theorem yR4 (n:Nat) (h0:0<n) (hn:n<4000000000000000000) (a:Int):∃ x:Nat,x<n∧∀ h,K2.sums t21 [.int .i64 a,.int .i64 (.ofNat n)] h=some (.int .i64 (.ofNat x)):=by
 obtain ⟨x,h1,h2⟩:=xL2 a h0 hn
 exact ⟨x,h1,fun h=>by rw [xL8 _ _ _ rfl]; exact h2 h⟩
theorem xAn {n:Nat} (h0:0<n) (hn:n<4000000000000000000) {L:Sl Int} (hL:L.l.length<9223372036854775808) {d:Pth} {q:Pth} {j:Nat} {t:Tr AB} {R:CRes}
  (hR:xC K2 49 (g t51) [.ptr d 0,.int .i64 (.ofNat n)] ⟨up q j,t,.lf⟩=R) (hd:qY t d L) :
  ∃ x pos j',R=.ret (.int .i64 (.ofNat x)) ⟨up q j',t.put d (.cells [slV inC L,.int .i64 (.ofNat pos)] false),.lf⟩∧x<n∧j≤j'∧pos≤L.l.length :=
 zC5 (X:=K2) (m:=47) (fun _ _=>rfl) rfl (yR4 n h0 hn) h0 hL hR hd
theorem qY.put {t:Tr AB} {i j:Nat} {L:Sl Int} (h:qY t (up .e i) L) (hij:i≠j) (x:AB):qY (t.put (up .e j) x) (up .e i) L:=by
 obtain ⟨pos,h1,h2⟩:=h
 exact ⟨pos,h1,by rw [Tr.get_put,if_neg (fun e=>hij (by rw [qL] at e; exact e))]; exact h2⟩
theorem qY.self {t:Tr AB} {d:Pth} {L:Sl Int} {pos:Nat} (h:pos≤L.l.length):qY (t.put d (.cells [slV inC L,.int .i64 (.ofNat pos)] false)) d L :=
 ⟨pos,h,by rw [Tr.get_put,if_pos rfl]⟩
theorem zHx {a b:Nat} (ha:a<4) (hb:b<2):∃ d,d<4∧zU .i64 (zU .i64 (.ofNat 2 * .ofNat a) * .ofNat b)=.ofNat (2*d):=by
 match a,ha,b,hb with
 | _,_,0,_=>exact ⟨0,by decide,by rw [show (Int.ofNat 0)=0 from rfl,Int.mul_zero]; rfl⟩
 | 0,_,1,_=>exact ⟨0,by decide,rfl⟩
 | 1,_,1,_=>exact ⟨1,by decide,rfl⟩
 | 2,_,1,_=>exact ⟨2,by decide,rfl⟩
 | 3,_,1,_=>exact ⟨3,by decide,rfl⟩
theorem yDu {x:Nat} (hx:x<3):zU .i64 (.ofNat 4 + .ofNat x)=shR (1+x)∧shK (1+x)=1∧∀ a b,shE a b (1+x)=[⟨1,a,b,a,b,0,0⟩]:=by
 match x,hx with
 | 0,_=>exact ⟨rfl,rfl,fun _ _=>rfl⟩
 | 1,_=>exact ⟨rfl,rfl,fun _ _=>rfl⟩
 | 2,_=>exact ⟨rfl,rfl,fun _ _=>rfl⟩
theorem zC0 (nm:List Nat) (L:Sl Int) (hL:L.l.length<9223372036854775808) {many m:Nat} (hm:many≤6) {fr:Tr AV} {j:Nat} {t:Tr AB} {nb pb:Nat} {pv:AV} {rs:List (List AV)} {Et:Nat→List Ed→Prop}
  {yb si:Nat} (hyb:yb<2) (hsi:si<5) {ev:AV} {o:Out} (hX:xF K2 (xC K2 49) c19_tl ⟨fr,[],⟨up .e j,t,.lf⟩,.no,none,t19⟩=o)
  (_hj:3≤j) (hk:rs.length+(m+1)=many) (g4:fr.get t4=some (.ptr (up .e 0) 0)) (g5:fr.get t5=some (.ptr (up .e 1) 0)) (g6:fr.get t6=some (.ptr (up .e 2) 0)) (g7:fr.get t7=some (.int .i64 (.ofNat many))) (g8:fr.get t8=some (.int .i64 (.ofNat rs.length)))
  (g9:fr.get t9=some (.ptr (up .e pb) 0)) (hpb:3≤pb) (hpj:pb<j)
  (a0:t.get (up .e 0)=some (.cells [e0,.nils,.nils] false)) (ad:qY t (up .e 1) L) (a2:t.get (up .e 2)=some (.cells [.str nm,pv,.nils] false))
  (ap:t.get (up .e pb)=some (.cells [.str (vF rs.length),.int .i64 (shK si),ev,.int .i64 (shR si),.int .i64 (pX rs.length),.int .i64 (pY yb),.int .i64 0] false)) (he:SlT edC 7 Et ev (shE (pX rs.length) (pY yb) si))
  (hg:dV 7 t 3 j nb pv rs) (hnb:nb≠pb) (hr:dJ Et rs) (hT:Typed edC Et t) (hE:∀ i n,Et i n→3≤i∧i<j∧i≠nb∧i≠pb) :
  ∃ fr' j' t' nb' pv' row,o=.nrm ⟨fr',[],⟨up .e j',t',.lf⟩,.no,none,t19⟩∧3≤j' ∧
   fr'.get t4=some (.ptr (up .e 0) 0)∧fr'.get t5=some (.ptr (up .e 1) 0)∧fr'.get t6=some (.ptr (up .e 2) 0)∧fr'.get t7=some (.int .i64 (.ofNat many))∧fr'.get t8=some (.int .i64 (.ofNat rs.length)) ∧
   t'.get (up .e 0)=some (.cells [e0,.nils,.nils] false)∧qY t' (up .e 1) L∧t'.get (up .e 2)=some (.cells [.str nm,pv',.nils] false) ∧
   dV 7 t' 3 j' nb' pv' (rs++[row])∧xHj Et rs.length row∧Typed edC Et t'∧(∀ i n,Et i n→3≤i∧i<j'∧i≠nb'):=by
 rw [← hX]
 simp +decide (disch:=omega) only [c19_tl,xF,wK,xI,xE,xZ,yT,zH,qW,pL,H.newB,St.put,Tr.get_put,if_true,g5]
 generalize hR1:xC K2 49 (g t51) _ _=R1
 obtain ⟨x1,p1,j1,rfl,hx1,hj1,hp1⟩:=xAn (n:=4) (by decide) (by decide) hL hR1 ad
 simp +decide (disch:=omega) only [zH,zJ,qW,xG,Tr.get_put,if_true,if_false,cond_true,yH,decide_true,eqK,xT,g5]
 generalize hR2:xC K2 49 (g t51) _ _=R2
 obtain ⟨x2,p2,j2,rfl,hx2,hj2,hp2⟩:=xAn (n:=2) (by decide) (by decide) hL hR2 (qY.self hp1)
 have hev:=he.one
 obtain ⟨dd,hdd,edd⟩:=zHx hx1 hx2
 simp +decide (disch:=omega) only [qZ,jC,zJ,zN,xAs,jZ,H.cellsAt,wR,xBo,rM,rN,wW,setAt,mM,mF,nT,xA9,dA,xG,Tr.get_put,if_true,if_false,cond_true,Nat.zero_add,Nat.zero_mul,wC,wH,Bool.and_self,List.length,yH,nD,decide_true,Nat.reduceAdd,eqK,xT,Option.map_some,g6,g9,a2,ap]
 generalize hA:jD _ 7 80 _ _=A
 have hE':∀ i n,Et i n→i≠1∧i≠pb∧i≠j2:=fun i n h=>by
  have:=hE i n h
  omega
 obtain ⟨t2,rfl,b1,b2,b3⟩:=dV.append (hg.keep (hi':=j2+1) (by omega) (fun _ _=>by simp +decide (disch:=omega) only [Tr.get_put,wH,if_false])) hA (sp:=false)
  (by rw [Tr.get_put,if_pos rfl]) rfl (by simp only [mF,xC6,xA9,hev,Bool.and_self]) (fun r h=>hr.mem h) (by decide) (by omega) (by omega)
 have q0:=(b2 0 (by omega) (fun _ _=>by omega)).trans (by simp +decide (disch:=omega) only [Tr.get_put,wH,if_false]; exact a0)
 have q1:qY t2 (up .e 1) L:=by
  refine ⟨p2,hp2,(b2 1 (by omega) (fun _ _=>by omega)).trans ?_⟩
  simp +decide (disch:=omega) only [Tr.get_put,wH,if_true,if_false]
 have q2:=(b2 2 (by omega) (fun _ _=>by omega)).trans (by simp +decide (disch:=omega) only [Tr.get_put,wH,if_false]; exact a2)
 have qT:Typed edC Et t2:=by
  intro i n hi
  have h1:=hE i n hi
  obtain ⟨sp,h3⟩:=hT i n hi
  refine ⟨sp,(b2 i (by omega) (fun _ _=>by omega)).trans ?_⟩
  simp +decide (disch:=omega) only [Tr.get_put,wH,if_false]
  exact h3
 simp +decide (disch:=omega) only [jC,zN,wW,setAt,mF,xEj,xBs,Tr.get_put,if_true,if_false,cond_true,Nat.zero_add,Bool.and_self,List.length,yH,decide_true,Option.map_some,g6,q2]
 refine ⟨_,_,_,_,_,_,rfl,?_,?_,?_,?_,?_,?_,?_,q1.put (by omega) _,by rw [Tr.get_put,if_pos rfl],b3.keep (Nat.le_refl _) (fun _ _ => ?_),⟨yb,si,dd,ev,hyb,hsi,hdd,by rw [edd],he⟩,qT.put (fun i n h => ?_) _,fun i n h => ?_⟩
 any_goals simp +decide (disch:=omega) only [Tr.get_put,wH,g4,g5,g6,g7,g8,q0,if_false]
 ·omega
 ·have:=hE i n h
  omega
 ·have:=hE i n h
  omega
theorem xB7 {k:Nat} (hk:k<6) (h:H):xC K2 49 (g t52) [.int .i64 (.ofNat k)] h=.ret (.str (vF k)) h:=qF (by rw [List.nil_append,List.append_nil,xL8 _ _ _ rfl]; exact zC4 hk h)
theorem yO0 (a b c d:Int) (h:H):xC K2 49 (g t53) [.agg [.int .i64 a,.int .i64 b,.int .i64 c,.int .i64 d]] h=.ret (.agg [.int .i64 2,slV edC (yD7 a b c d),.int .i64 0]) h:=qF (by rw [List.nil_append,List.append_nil,xL8 _ _ _ rfl]; exact zS4 a b c d h)
theorem yL1 (x y r:Int) (h:H):xC K2 49 (g t22) [.agg [.int .i64 x,.int .i64 y],.int .i64 r] h=.ret (.agg [.int .i64 1,slV edC (yBm x y),.int .i64 r]) h:=qF (by rw [List.nil_append,List.append_nil,xL8 _ _ _ rfl]; exact zHr x y r h)
theorem zZ4 (nm:List Nat) (L:Sl Int) (hL:L.l.length<9223372036854775808) {many x2:Nat} (hx2:x2<3) {fr:Tr AV} {j:Nat} {t:Tr AB} {nb pb xb:Nat} {pv:AV} {rs:List (List AV)} {Et:Nat→List Ed→Prop}
  {pn:List Nat} {x y:Int} {o:Out} (hX:xF K2 (xC K2 49) c19_sw ⟨fr,[],⟨up .e j,t,.lf⟩,.no,none,t19⟩=o)
  (hj:3≤j) (g4:fr.get t4=some (.ptr (up .e 0) 0)) (g5:fr.get t5=some (.ptr (up .e 1) 0)) (g6:fr.get t6=some (.ptr (up .e 2) 0)) (g7:fr.get t7=some (.int .i64 (.ofNat many))) (g8:fr.get t8=some (.int .i64 (.ofNat rs.length)))
  (g9:fr.get t9=some (.ptr (up .e pb) 0)) (g10:fr.get t10=some (.ptr (up .e xb) 0)) (g37:fr.get t37=some (.int .i64 (.ofNat x2))) (hpb:3≤pb) (hpx:pb<xb) (hxj:xb<j)
  (a0:t.get (up .e 0)=some (.cells [e0,.nils,.nils] false)) (ad:qY t (up .e 1) L) (a2:t.get (up .e 2)=some (.cells [.str nm,pv,.nils] false))
  (ap:t.get (up .e pb)=some (.cells [.str pn,.int .i64 0,.nils,.int .i64 0,.int .i64 x,.int .i64 y,.int .i64 0] false)) (ax:t.get (up .e xb)=some (.cells [.int .i64 x,.int .i64 y] false))
  (hg:dV 7 t 3 j nb pv rs) (hnb:nb≠pb) (hT:Typed edC Et t) (hE:∀ i n,Et i n→3≤i∧i<j∧i≠nb∧i≠pb) :
  ∃ fr' j' t' ev si Et',o=.nrm ⟨fr',[],⟨up .e j',t',.lf⟩,.no,none,t19⟩∧j≤j' ∧
   fr'.get t4=some (.ptr (up .e 0) 0)∧fr'.get t5=some (.ptr (up .e 1) 0)∧fr'.get t6=some (.ptr (up .e 2) 0)∧fr'.get t7=some (.int .i64 (.ofNat many))∧fr'.get t8=some (.int .i64 (.ofNat rs.length)) ∧
   fr'.get t9=some (.ptr (up .e pb) 0)∧t'.get (up .e 0)=some (.cells [e0,.nils,.nils] false)∧qY t' (up .e 1) L∧t'.get (up .e 2)=some (.cells [.str nm,pv,.nils] false) ∧
   si<5∧t'.get (up .e pb)=some (.cells [.str pn,.int .i64 (shK si),ev,.int .i64 (shR si),.int .i64 x,.int .i64 y,.int .i64 0] false)∧SlT edC 7 Et' ev (shE x y si) ∧
   dV 7 t' 3 j' nb pv rs∧Typed edC Et' t'∧(∀ i n,Et' i n→3≤i∧i<j'∧i≠nb∧i≠pb)∧(∀ i n,Et i n→Et' i n):=by
 have hnj:nb<j:=by
  rcases hg with ⟨_,_,h⟩ | ⟨_,_,_,_,h⟩<;>omega
 have hnb3:∀ t':Tr AB,(3≤nb→t'.get (up .e nb)=t.get (up .e nb))→∀ j',j≤j'→dV 7 t' 3 j' nb pv rs:=fun t' h j' hj'=>hg.keep hj' (fun h1 _=>h h1)
 rw [← hX]
 have q00:eqI (.ofNat 0) (.ofNat 0)=true:=rfl
 have q10:eqI (.ofNat 1) (.ofNat 0)=false:=rfl
 have q11:eqI (.ofNat 1) (.ofNat 1)=true:=rfl
 have q20:eqI (.ofNat 2) (.ofNat 0)=false:=rfl
 have q21:eqI (.ofNat 2) (.ofNat 1)=false:=rfl
 have hx:x2=0∨x2=1∨x2=2:=by omega
 rcases hx with rfl | rfl | rfl
 ·simp +decide (disch:=omega) only [xF,wK,xI,xE,xZ,yT,zH,qZ,jC,zJ,qW,zN,pK,jZ,H.cellsAt,wR,xBo,rM,rN,wW,setAt,jO,mF,nT,xA9,dA,xC5,xG,zG,St.put,Tr.get_put,if_true,if_false,cond_true,Nat.zero_add,Nat.add_zero,Bool.and_self,List.length,yH,nD,decide_true,Nat.reduceAdd,eqK,xT,Option.map_some,g9,g10,g37,ap,ax,yO0,c19_sw,q00]
  refine ⟨_,j,_,_,0,Et,rfl,Nat.le_refl _,?_,?_,?_,?_,?_,?_,?_,ad.put (by omega) _,?_,by decide,by rw [Tr.get_put,if_pos rfl]; rfl,.inl ⟨_,rfl,rfl⟩,hnb3 _ (fun _ => ?_) _ (Nat.le_refl _),hT.put (fun i n h => ?_) _,hE,fun _ _ h=>h⟩
  any_goals simp +decide (disch:=omega) only [Tr.get_put,wH,g4,g5,g6,g7,g8,g9,a0,a2,if_false]
  have:=hE i n h
  omega
 ·simp +decide (disch:=omega) only [xF,wK,xI,xE,xZ,yT,mK,jB,kD,xO,qM,yP,zX,dG,mH,zH,qZ,zJ,qW,jZ,H.cellsAt,wR,rM,rN,xG,zG,St.put,Tr.get_put,if_true,if_false,cond_true,cond_false,Nat.zero_add,kZ,xHb,wC,beq_rfl,Bool.and_self,List.length,xS,quiet,qE,yH,nD,decide_true,Nat.reduceAdd,Bool.true_and,Bool.and_true,Bool.false_and,Bool.or_true,List.all,eqK,xT,Option.map_some,g5,g10,g37,ax,c19_sw,q10,q11]
  generalize hR:xC K2 49 (g t51) _ _=R
  obtain ⟨x3,p3,j3,rfl,hx3,hj3,hp3⟩:=xAn (n:=3) (by decide) (by decide) hL hR ad
  simp +decide (disch:=omega) only [qM,yP,zX,mH,rG,kY,jC,qW,jZ,H.cellsAt,wR,rM,rN,wW,setAt,mF,nT,xA9,xC5,xG,Tr.get_put,if_true,if_false,cond_true,cond_false,Nat.zero_add,wH,beq_rfl,Bool.and_self,List.length,qE,yH,nD,decide_true,decide_false,Nat.reduceAdd,Nat.reduceLeDiff,Bool.and_false,List.all,eqK,xT,Option.map_some,g9,ap,ax,yL1]
  obtain ⟨dr1,dr2,dr3⟩:=yDu hx3
  refine ⟨_,j3,_,_,1+x3,Et,rfl,by omega,?_,?_,?_,?_,?_,?_,?_,(qY.self hp3).put (by omega) _,?_,by omega,by rw [Tr.get_put,if_pos rfl,dr1,dr2],.inl ⟨_,(dr3 _ _).symm,rfl⟩,hnb3 _ (fun _ => ?_) _ (by omega),(hT.put (fun i n h => ?_) _).put (fun i n h => ?_) _,fun i n h => ?_,fun _ _ h=>h⟩
  any_goals simp +decide (disch:=omega) only [Tr.get_put,wH,g4,g5,g6,g7,g8,g9,a0,a2,if_false]
  all_goals have:=hE i n h
  all_goals omega
 ·simp +decide (disch:=omega) only [xF,wK,xI,xE,xZ,yT,zH,qZ,jC,zJ,zN,pK,pL,jZ,H.cellsAt,H.newB,wR,xBo,rM,rN,wW,setAt,jO,mM,mF,nT,xA9,dA,xEj,xBs,xG,zG,St.put,Tr.get_put,if_true,if_false,cond_true,Nat.zero_add,Nat.add_zero,Nat.zero_mul,wC,wH,Bool.and_self,List.length,yH,nD,decide_true,Nat.reduceAdd,eqK,xT,Option.map_some,g9,g10,g37,ap,ax,c19_sw,q20,q21]
  have hT':∀ t':Tr AB,(∀ i,i≠pb→i≠j→t'.get (up .e i)=t.get (up .e i))→Typed edC Et t':=by
   intro t' h i n hi
   have h1:=hE i n hi
   obtain ⟨sp,h3⟩:=hT i n hi
   exact ⟨sp,(h i (by omega) (by omega)).trans h3⟩
  refine ⟨_,j+1,_,_,4,fun i n=>Et i n∨i=j∧n=shE x y 4,rfl,by omega,?_,?_,?_,?_,?_,?_,?_,(ad.put (by omega) _).put (by omega) _,?_,by decide,by rw [Tr.get_put,if_pos rfl]; rfl,.inr ⟨j,_,rfl,.inr ⟨rfl,rfl⟩⟩,hnb3 _ (fun _ => ?_) _ (by omega),
   Typed.add (ls:=shE x y 4) (sp:=false) (hT' _ (fun i h1 h2 => ?_)) ?_,fun i n h => ?_,fun _ _ h=>.inl h⟩
  any_goals simp +decide (disch:=omega) only [Tr.get_put,wH,g4,g5,g6,g7,g8,g9,a0,a2,if_true,if_false]
  ·rfl
  ·rcases h with h | ⟨rfl,rfl⟩
   ·have:=hE i n h
    omega
   ·omega
end Go.Abs.Sym
end
section
namespace Go.Abs.Sym
open Go.Abs.T
open Go.Proofs
theorem yNu {k:Nat} (h:k<6):zU .i64 (.ofNat 30 * .ofNat k)=pX k:=by
 match k,h with
 | 0,_=>rfl
 | 1,_=>rfl
 | 2,_=>rfl
 | 3,_=>rfl
 | 4,_=>rfl
 | 5,_=>rfl
theorem yNv {b:Nat} (h:b<2):zU .i64 (.ofNat 10 * .ofNat b)=pY b:=by
 match b,h with
 | 0,_=>rfl
 | 1,_=>rfl
theorem zIx (nm:List Nat) (L:Sl Int) {many m:Nat} (hm:many≤6) {rs:List (List AV)} {Et:Nat→List Ed→Prop} (hk:rs.length+(m+1)=many) (hr:dJ Et rs) {fr':Tr AV} {j':Nat} {t':Tr AB} {nb':Nat} {pv':AV} {row:List AV} {Et':Nat→List Ed→Prop}
  (hj':3≤j') (g4:fr'.get t4=some (.ptr (up .e 0) 0)) (g5:fr'.get t5=some (.ptr (up .e 1) 0)) (g6:fr'.get t6=some (.ptr (up .e 2) 0)) (g7:fr'.get t7=some (.int .i64 (.ofNat many))) (g8:fr'.get t8=some (.int .i64 (.ofNat rs.length)))
  (a0:t'.get (up .e 0)=some (.cells [e0,.nils,.nils] false)) (ad:qY t' (up .e 1) L) (a2:t'.get (up .e 2)=some (.cells [.str nm,pv',.nils] false))
  (hg':dV 7 t' 3 j' nb' pv' (rs++[row])) (hrow:xHj Et' rs.length row) (hT':Typed edC Et' t') (hE':∀ i n,Et' i n→3≤i∧i<j'∧i≠nb') (hEE:∀ i n,Et i n→Et' i n) :
  Stp (MadeI nm L many) (xYk nm L many) (m+1) (xF K2 (xC K2 49) (.reg [⟨s23,.mov,[v8],none⟩,⟨s24,.bin .add .one,[v23,.const i1],none⟩,⟨s8,.mov,[v24],none⟩]) ⟨fr',[],⟨up .e j',t',.lf⟩,.no,none,t19⟩):=by
 have hw:=xAd rs.length 1 (by omega)
 simp +decide (disch:=omega) only [xF,wK,xI,xE,xZ,yT,zH,zJ,xG,St.put,Tr.get_put,if_true,if_false,cond_true,yH,decide_true,eqK,xT,g8,hw,xA2]
 have hl:(rs++[row]).length=rs.length+1:=by rw [List.length_append]; rfl
 refine ⟨m,by omega,⟨_,j',t',nb',pv',rs++[row],Et',rfl,hj',by omega,?_,?_,?_,?_,?_,a0,ad,a2,hg',(hr.mono hEE).snoc hrow,hT',hE'⟩⟩
 any_goals simp +decide only [Tr.get_put,g4,g5,g6,g7,g8,hl,if_true,if_false]
set_option maxHeartbeats 1000000 in
theorem xXg (nm:List Nat) (L:Sl Int) (hL:L.l.length<9223372036854775808) {many:Nat} (hm:many≤6) (m:Nat) (s:St) (h:MadeI nm L many m s) :
  Stp (MadeI nm L many) (xYk nm L many) m (xF K2 (xC K2 49) c19_l0 s):=by
 obtain ⟨fr,j,t,nb,pv,rs,Et,rfl,hj,hk,g4,g5,g6,g7,g8,a0,ad,a2,hg,hr,hT,hE⟩:=h.ex
 have hnb:nb<j:=by
  rcases hg with ⟨_,_,h⟩ | ⟨_,_,_,_,h⟩<;>omega
 cases m with
 | zero =>
  have hkn:(rs.length<many)=False:=eq_false (by omega)
  simp +decide (disch:=omega) only [c19_l0,xF,wK,xI,xE,xZ,yT,zH,zJ,xG,St.put,Tr.get_put,if_true,if_false,cond_true,yH,decide_true,decide_false,eqK,xT,g7,g8,qV,hkn,xCd]
  refine ⟨_,rfl,⟨_,j,t,nb,pv,rs,Et,rfl,hj,hk,?_,?_,?_,?_,?_,a0,ad,a2,hg,hr,hT,hE⟩⟩
  all_goals simp +decide only [Tr.get_put,g4,g5,g6,g7,g8,if_false]
 | succ m =>
  have hkn:(rs.length<many)=True:=eq_true (by omega)
  have hk6:rs.length<6:=by omega
  have hnm:=xB7 (k:=rs.length) hk6
  simp +decide (disch:=omega) only [c19_l0,xF,wK,xI,xE,xZ,yT,zH,rH,zJ,qW,pK,H.newB,xG,St.put,Tr.get_put,if_true,if_false,cond_true,yH,decide_true,eqK,xT,g5,g7,g8,qV,hkn,hnm]
  generalize hR1:xC K2 49 (g t51) _ _=R1
  obtain ⟨x1,p1,j1,rfl,hx1,hj1,hp1⟩:=xAn (n:=2) (by decide) (by decide) hL hR1 ad
  simp +decide (disch:=omega) only [xF,wK,xI,xE,xZ,yT,zH,rH,qZ,jC,zJ,qW,zN,jZ,H.cellsAt,H.newB,wR,xBo,rM,rN,wW,setAt,jO,mF,nT,xA9,dA,xC6,xA5,xL4,xG,St.put,Tr.get_put,if_true,if_false,cond_true,Nat.zero_add,wC,wH,Bool.and_self,List.length,yH,nD,decide_true,Nat.reduceAdd,eqK,xT,Option.map_some,c19_b,g5]
  generalize hR2:xC K2 49 (g t51) _ _=R2
  obtain ⟨x2,p2,j2,rfl,hx2,hj2,hp2⟩:=xAn (n:=3) (by decide) (by decide) hL hR2 (((((qY.self hp1).put (by omega) _).put (by omega) _).put (by omega) _).put (by omega) _)
  simp +decide (disch:=omega) only
  rw [yNu hk6,yNv hx1]
  generalize hX:xF K2 (xC K2 49) c19_sw _=o
  have hT':∀ t':Tr AB,(∀ i,2≤i→i<j→t'.get (up .e i)=t.get (up .e i))→Typed edC Et t':=by
   intro t' h i n hi
   have h1:=hE i n hi
   obtain ⟨sp,h3⟩:=hT i n hi
   exact ⟨sp,(h i (by omega) (by omega)).trans h3⟩
  have hg':∀ t':Tr AB,(∀ i,2≤i→i<j→t'.get (up .e i)=t.get (up .e i))→∀ j',j≤j'→dV 7 t' 3 j' nb pv rs:=fun t' h j' hj'=>hg.keep hj' (fun h1 h2=>h nb (by omega) h2)
  obtain ⟨fr2,j3,t3,ev,si,Et2,rfl,hj3,k4,k5,k6,k7,k8,k9,b0,bd,b2,hsi,bp,hev,hg2,hT2,hE2,hEE⟩:=zZ4 nm L hL (many:=many) (nb:=nb) (pb:=j1) (xb:=j1+1) (pv:=pv) (rs:=rs) (Et:=Et) (pn:=vF rs.length) (x:=pX rs.length) (y:=pY x1) hx2 hX (by omega)
   (by simp +decide only [Tr.get_put,g4,if_false]) (by simp +decide only [Tr.get_put,g5,if_false]) (by simp +decide only [Tr.get_put,g6,if_false]) (by simp +decide only [Tr.get_put,g7,if_false]) (by simp +decide only [Tr.get_put,g8,if_false])
   (by simp +decide only [Tr.get_put,if_true,if_false]) (by simp +decide only [Tr.get_put,if_true,if_false]) (by simp +decide only [Tr.get_put,if_true,if_false]) (by omega) (by omega) (by omega)
   (by simp +decide (disch:=omega) only [Tr.get_put,wH,a0,if_false]) (qY.self hp2) (by simp +decide (disch:=omega) only [Tr.get_put,wH,a2,if_false])
   (by simp +decide (disch:=omega) only [Tr.get_put,wH,if_true,if_false]; rfl) (by simp +decide (disch:=omega) only [Tr.get_put,wH,if_true,if_false])
   (hg' _ (fun i h1 h2=>by simp +decide (disch:=omega) only [Tr.get_put,wH,if_false]) _ (by omega)) (by omega) (hT' _ (fun i h1 h2=>by simp +decide (disch:=omega) only [Tr.get_put,wH,if_false])) (fun i n h=>by have:=hE i n h; omega)
  simp +decide (disch:=omega) only
  generalize hX2:xF K2 (xC K2 49) c19_tl _=o
  obtain ⟨fr4,j4,t4',nb',pv',row,rfl,hj4,l4,l5,l6,l7,l8,d0,dd,d2,hg3,hrow,hT3,hE3⟩:=zC0 nm L hL (Et:=Et2) (yb:=x1) (si:=si) hm hx1 hsi hX2 (by omega) hk k4 k5 k6 k7 k8 k9 (by omega) (by omega) b0 bd b2 bp hev hg2 (by omega) (hr.mono hEE) hT2 hE2
  exact zIx nm L hm hk hr hj4 l4 l5 l6 l7 l8 d0 dd d2 hg3 hrow hT3 hE3 hEE
end Go.Abs.Sym
end
section
namespace Go.Abs.T
open AV
set_option maxRecDepth 100000
def c19_g2t:ACode:=(.seq (.reg [⟨s116,.mov,[v5],none⟩,⟨s117,.call,[.const (g t51),v116,.const i2],none⟩,⟨s11,.mov,[v117],none⟩]) (.reg [⟨s118,.call,[.const (g t52),.const i0],none⟩,⟨s119,.mov,[v11],none⟩,⟨s120,.build [e0,i0] [(0,1),(1,1)],[v118,v119],none⟩,⟨s121,.call,[.const (g t52),.const i1],none⟩,⟨s122,.mov,[v11],none⟩,⟨s123,.build [e0,i0] [(0,1),(1,1)],[v121,v122],none⟩,⟨s124,.buildSl 2 2 [e0,i0,e0,i0] [0,1],[v120,v123],none⟩,⟨s125,.build [i0,nils] [(0,1),(1,1)],[.const i1,v124],none⟩,⟨s126,.call,[.const (g t52),.const i2],none⟩,⟨s127,.mov,[v11],none⟩,⟨s128,.build [e0,i0] [(0,1),(1,1)],[v126,v127],none⟩,⟨s129,.call,[.const (g t52),.const i3],none⟩,⟨s130,.mov,[v11],none⟩,⟨s131,.build [e0,i0] [(0,1),(1,1)],[v129,v130],none⟩,⟨s132,.buildSl 2 2 [e0,i0,e0,i0] [0,1],[v128,v131],none⟩,⟨s133,.build [i0,nils] [(0,1),(1,1)],[.const i1,v132],none⟩,⟨s134,.buildSl 2 2 [i0,nils,i0,nils] [0,1],[v125,v133],none⟩,⟨s135,.fieldAddr 2,[v6],none⟩,⟨none,.store 1,[v135,v134],none⟩]))
theorem c19_g2_p:c19_g2=(.seq (.reg [⟨s109,.mov,[v7],none⟩,⟨s110,.bin .geq .one,[v109,.const i4],none⟩,⟨s111,.mov,[v110],none⟩,⟨s112,.mov,[v5],(some (t111,true))⟩,⟨s113,.call,[.const (g t51),v112,.const i3],(some (t111,true))⟩,⟨s114,.bin .gtr .one,[v113,.const i0],(some (t111,true))⟩,⟨s115,.pick,[v111,v114,.const (bool false)],none⟩]) (.cond (v115) c19_g2t .skip)):=rfl
def c19_g3t:ACode:=(.dreg [⟨⟨s149,.fieldAddr 2,[v6],none⟩,false,0,27,true,[],false⟩,⟨⟨s150,.load none,[v149],none⟩,false,0,27,true,[],false⟩,⟨⟨s151,.mov,[v5],none⟩,false,0,3,false,[],false⟩,⟨⟨s152,.call,[.const (g t51),v151,.const i3],none⟩,true,0,4,true,[],false⟩,⟨⟨s153,.call,[.const (g t52),.const i5],none⟩,true,4,14,true,[],false⟩,⟨⟨s154,.fieldAddr 2,[v6],none⟩,false,0,27,true,[],false⟩,⟨⟨s155,.load none,[v154],none⟩,false,0,27,true,[],false⟩,⟨⟨s156,.indexAddr (.slc 2),[v155,.const i0],none⟩,false,0,27,true,[],false⟩,⟨⟨s157,.fieldAddr 1,[v156],none⟩,false,0,27,true,[],false⟩,⟨⟨s158,.load none,[v157],none⟩,false,0,27,true,[],false⟩,⟨⟨s159,.indexAddr (.slc 2),[v158,.const i0],none⟩,false,0,27,true,[],false⟩,⟨⟨s160,.fieldAddr 1,[v159],none⟩,false,0,27,true,[],false⟩,⟨⟨s161,.load none,[v160],none⟩,false,0,27,true,[],false⟩,⟨⟨s162,.build [e0,i0] [(0,1),(1,1)],[v153,v161],none⟩,false,5,27,true,[],false⟩,⟨⟨s163,.call,[.const (g t52),.const i4],none⟩,true,5,27,true,[],false⟩,⟨⟨s164,.fieldAddr 2,[v6],none⟩,false,0,27,true,[],false⟩,⟨⟨s165,.load none,[v164],none⟩,false,0,27,true,[],false⟩,⟨⟨s166,.indexAddr (.slc 2),[v165,.const i0],none⟩,false,0,27,true,[],false⟩,⟨⟨s167,.fieldAddr 1,[v166],none⟩,false,0,27,true,[],false⟩,⟨⟨s168,.load none,[v167],none⟩,false,0,27,true,[],false⟩,⟨⟨s169,.indexAddr (.slc 2),[v168,.const i1],none⟩,false,0,27,true,[],false⟩,⟨⟨s170,.fieldAddr 1,[v169],none⟩,false,0,27,true,[],false⟩,⟨⟨s171,.load none,[v170],none⟩,false,0,27,true,[],false⟩,⟨⟨s172,.build [e0,i0] [(0,1),(1,1)],[v163,v171],none⟩,false,15,27,false,[],false⟩,⟨⟨s173,.buildSl 2 2 [e0,i0,e0,i0] [0,1],[v162,v172],none⟩,false,15,27,false,[],false⟩,⟨⟨s174,.build [i0,nils] [(0,1),(1,1)],[v152,v173],none⟩,false,15,27,false,[24],false⟩,⟨⟨s175,.buildSl 1 2 [i0,nils] [0],[v174],none⟩,false,15,27,false,[24],false⟩,⟨⟨s176,.append 2 32 false,[v150,v175],none⟩,true,15,29,true,[24,26],false⟩,⟨⟨s177,.fieldAddr 2,[v6],none⟩,false,28,29,false,[24,26],false⟩,⟨⟨none,.store 1,[v177,v176],none⟩,true,28,30,true,[24,26],true⟩])
theorem c19_g3_p:c19_g3=(.seq (.reg [⟨s136,.mov,[v7],none⟩,⟨s137,.bin .eql .one,[v136,.const i6],none⟩,⟨s138,.mov,[v137],none⟩,⟨s139,.fieldAddr 2,[v6],(some (t138,true))⟩,⟨s140,.load none,[v139],(some (t138,true))⟩,⟨s141,.len .slc,[v140],(some (t138,true))⟩,⟨s142,.bin .gtr .one,[v141,.const i0],(some (t138,true))⟩,⟨s143,.pick,[v138,v142,.const (bool false)],none⟩,⟨s144,.mov,[v143],none⟩,⟨s145,.mov,[v5],(some (t144,true))⟩,⟨s146,.call,[.const (g t51),v145,.const i2],(some (t144,true))⟩,⟨s147,.bin .eql .one,[v146,.const i1],(some (t144,true))⟩,⟨s148,.pick,[v144,v147,.const (bool false)],none⟩]) (.cond (v148) c19_g3t .skip)):=rfl
end Go.Abs.T
end
section
namespace Go.Abs.Sym
open Go.Abs.T
open Go.Proofs
def FrM (fr:Tr AV) (many:Nat):Prop:=fr.get t4=some (.ptr (up .e 0) 0)∧fr.get t5=some (.ptr (up .e 1) 0)∧fr.get t6=some (.ptr (up .e 2) 0)∧fr.get t7=some (.int .i64 (.ofNat many))
def xBf (nm:List Nat) (L:Sl Int) (many:Nat) (pv:AV) (rs:List (List AV)) (nb j0:Nat) (Et:Nat→List Ed→Prop) (gv:AV) (t:Tr AB):Prop :=
 t.get (up .e 0)=some (.cells [e0,.nils,.nils] false)∧qY t (up .e 1) L∧t.get (up .e 2)=some (.cells [.str nm,pv,gv] false) ∧
  dV 7 t 3 j0 nb pv rs∧rs.length=many∧dJ Et rs∧Typed edC Et t∧(∀ i n,Et i n→3≤i∧i<j0∧i≠nb)
theorem xBf.keep {nm:List Nat} {L:Sl Int} {many:Nat} {pv:AV} {rs:List (List AV)} {nb j0:Nat} {Et:Nat→List Ed→Prop} {gv gv':AV} {t t':Tr AB} (h:xBf nm L many pv rs nb j0 Et gv t)
  (h1:qY t' (up .e 1) L) (h2:t'.get (up .e 2)=some (.cells [.str nm,pv,gv'] false)) (h3:∀ i,i<j0→i≠1→i≠2→t'.get (up .e i)=t.get (up .e i)) (hj:3≤j0):xBf nm L many pv rs nb j0 Et gv' t':=by
 obtain ⟨a0,ad,a2,hg,hn,hr,hT,hE⟩:=h
 refine ⟨(h3 0 (by omega) (by omega) (by omega)).trans a0,h1,h2,hg.keep (Nat.le_refl _) (fun k1 k2=>h3 nb k2 (by omega) (by omega)),hn,hr,fun i n hi => ?_,hE⟩
 obtain ⟨sp,k2⟩:=hT i n hi
 have:=hE i n hi
 exact ⟨sp,(h3 i (by omega) (by omega) (by omega)).trans k2⟩
def GV (t:Tr AB) (gv:AV) (gs:List GateD):Prop :=
 (gv=.nils∧gs=[])∨∃ (gb:Nat) (c:Option Nat) (rs:List (List AV)) (sp:Bool) (Lt:Nat→List Lg→Prop),gv=.slc (up .e gb) 0 gs.length 2 c∧gs≠[]∧t.get (up .e gb)=some (.cells rs.flatten sp)∧xHi Lt rs gs∧Typed lgC Lt t∧3≤gb∧∀ i n,Lt i n→3≤i
def lg2 (a b:Nat) (x y:Nat):List Lg:=[⟨vF a,.ofNat x⟩,⟨vF b,.ofNat y⟩]
def gs1 (x:Nat):List GateD:=[⟨0,⟨1,lg2 0 1 1 x⟩⟩]
def gs2 (x:Nat):List GateD:=[⟨1,⟨1,lg2 0 1 x x⟩⟩,⟨1,⟨1,lg2 2 3 x x⟩⟩]
def gs3 (x k:Nat):List GateD:=[⟨1,⟨1,lg2 0 1 x x⟩⟩,⟨1,⟨1,lg2 2 3 x x⟩⟩,⟨.ofNat k,⟨1,lg2 5 4 x x⟩⟩]
def GOK (many:Nat) (gs:List GateD):Prop :=
 gs=[]∨(many<4∧∃ x,x<2∧gs=gs1 x)∨(4≤many∧∃ x,x<2∧gs=gs2 x)∨(many=6∧∃ x k,x<2∧k<3∧gs=gs3 x k)
theorem zBi (a b:Nat):ltI (.ofNat a) (.ofNat b)=decide (a<b):=qV a b
theorem yIi (a b:Nat):leI (.ofNat a) (.ofNat b)=decide (a≤b):=by
 show Nat.ble a b=_
 exact nD a b
theorem yPt (a b:Nat):eqI (.ofNat a) (.ofNat b)=decide (a=b):=by
 show Nat.beq a b=_
 exact yH a b
theorem zXv {many:Nat} (hm:4≤many) {fr:Tr AV} {h:H} (hf:FrM fr many):∃ fr',xF K2 (xC K2 49) c19_g1 ⟨fr,[],h,.no,none,t19⟩=.nrm ⟨fr',[],h,.no,none,t19⟩∧FrM fr' many:=by
 obtain ⟨g4,g5,g6,g7⟩:=hf
 have hl:ltI (.ofNat many) (.ofNat 4)=false:=by rw [zBi]; exact decide_eq_false (by omega)
 simp +decide only [c19_g1,xF,wK,xI,xE,xZ,yT,zH,zJ,kQ,xG,St.put,Tr.get_put,if_true,if_false,cond_true,cond_false,yH,decide_true,eqK,xT,xDx,g7,hl]
 refine ⟨_,rfl,?_,?_,?_,?_⟩<;>simp +decide only [Tr.get_put,g4,g5,g6,g7,if_false]
theorem zXw {many:Nat} (hm:many<4) {fr:Tr AV} {h:H} (hf:FrM fr many):∃ fr',xF K2 (xC K2 49) c19_g2 ⟨fr,[],h,.no,none,t19⟩=.nrm ⟨fr',[],h,.no,none,t19⟩∧FrM fr' many:=by
 obtain ⟨g4,g5,g6,g7⟩:=hf
 have hl:leI (.ofNat 4) (.ofNat many)=false:=by rw [yIi]; exact decide_eq_false (by omega)
 simp +decide only [c19_g2,xF,wK,xI,xE,xZ,yT,zH,zJ,kQ,xG,St.put,Tr.get_put,if_true,if_false,cond_true,cond_false,yH,decide_true,eqK,xT,xDx,g7,hl]
 refine ⟨_,rfl,?_,?_,?_,?_⟩<;>simp +decide only [Tr.get_put,g4,g5,g6,g7,if_false]
theorem zA1 {many:Nat} (hm:many≠6) {fr:Tr AV} {h:H} (hf:FrM fr many):∃ fr',xF K2 (xC K2 49) c19_g3 ⟨fr,[],h,.no,none,t19⟩=.nrm ⟨fr',[],h,.no,none,t19⟩∧FrM fr' many:=by
 obtain ⟨g4,g5,g6,g7⟩:=hf
 have hl:eqI (.ofNat many) (.ofNat 6)=false:=by rw [yPt]; exact decide_eq_false hm
 simp +decide only [c19_g3,xF,wK,xI,xE,xZ,yT,zH,zJ,kQ,xG,zG,St.put,Tr.get_put,if_true,if_false,cond_true,cond_false,yH,decide_true,eqK,xT,Option.map_some,xDx,g7,hl]
 refine ⟨_,rfl,?_,?_,?_,?_⟩<;>simp +decide only [Tr.get_put,g4,g5,g6,g7,if_false]
set_option maxHeartbeats 1000000 in
theorem yE5 {nm:List Nat} {L:Sl Int} (hL:L.l.length<9223372036854775808) {many:Nat} (hm:many<4) {pv:AV} {rs:List (List AV)} {nb j0:Nat} {Et:Nat→List Ed→Prop} (hj:3≤j0) {fr:Tr AV} {t:Tr AB} (hf:FrM fr many) (hp:xBf nm L many pv rs nb j0 Et .nils t) :
  ∃ fr' j' t' gv gs,xF K2 (xC K2 49) c19_g1 ⟨fr,[],⟨up .e j0,t,.lf⟩,.no,none,t19⟩=.nrm ⟨fr',[],⟨up .e j',t',.lf⟩,.no,none,t19⟩∧j0≤j'∧FrM fr' many∧xBf nm L many pv rs nb j0 Et gv t'∧GV t' gv gs∧GOK many gs:=by
 obtain ⟨g4,g5,g6,g7⟩:=hf
 have hl:ltI (.ofNat many) (.ofNat 4)=true:=by rw [zBi]; exact decide_eq_true hm
 have a2:=hp.2.2.1
 have hpv:pv.one=true:=hp.2.2.2.1.one
 simp +decide (disch:=omega) only [c19_g1,xF,wK,xI,xE,xZ,yT,zH,zJ,qW,pK,pL,H.newB,xG,St.put,Tr.get_put,if_true,if_false,cond_true,yH,decide_true,eqK,xT,beq_self_eq_true,xDx,g5,g7,hl]
 generalize hR:xC K2 49 (g t51) _ _=R
 obtain ⟨x1,p1,j1,rfl,hx1,hj1,hp1⟩:=xAn (n:=3) (by decide) (by decide) hL hR hp.2.1
 by_cases hx:0<x1
 ·have hb:ltI (.ofNat 0) (.ofNat x1)=true:=by rw [zBi]; exact decide_eq_true hx
  have n0:=xB7 (k:=0) (by decide)
  have n1:=xB7 (k:=1) (by decide)
  simp +decide (disch:=omega) only [zH,zJ,qW,kQ,setAt,jO,dA,xA5,xG,Tr.get_put,if_true,if_false,cond_true,Nat.zero_add,Bool.and_self,List.length,yH,nD,decide_true,Nat.reduceAdd,eqK,xT,Option.map_some,g5,hb,n0,n1]
  generalize hR2:xC K2 49 (g t51) _ _=R2
  obtain ⟨x2,p2,j2,rfl,hx2,hj2,hp2⟩:=xAn (n:=2) (by decide) (by decide) hL hR2 (qY.self hp1)
  simp +decide (disch:=omega) only [jC,zN,wW,setAt,jO,mM,mF,nT,dA,xA5,xEj,xBs,Tr.get_put,if_true,if_false,cond_true,Nat.zero_add,Nat.zero_mul,Nat.one_mul,wC,wH,Bool.and_self,List.length,yH,nD,decide_true,Nat.reduceAdd,Option.map_some,g6,a2]
  refine ⟨_,j2+1+1,_,_,gs1 x2,rfl,by omega,⟨?_,?_,?_,?_⟩,hp.keep (((qY.self hp2).put (by omega) _).put (by omega) _ |>.put (by omega) _) (by rw [Tr.get_put,if_pos rfl]; rfl) (fun i k1 k2 k3 => ?_) hj,
   .inr ⟨j2+1,some 1,[[.int .i64 0,.slc (up .e j2) 0 2 2 (some 2)]],false,fun i n=>i=j2∧n=lg2 0 1 1 x2,rfl,List.cons_ne_nil _ _,?_,⟨⟨_,rfl,.inr ⟨j2,_,rfl,rfl,rfl⟩,List.cons_ne_nil _ _,rfl⟩,trivial⟩,fun i n hi => ?_,by omega,fun i n hi=>by omega⟩,.inr (.inl ⟨hm,x2,hx2,rfl⟩)⟩
  any_goals simp +decide (disch:=omega) only [Tr.get_put,wH,g4,g5,g6,g7,if_true,if_false]
  ·rfl
  ·obtain ⟨rfl,rfl⟩:=hi
   refine ⟨false,?_⟩
   simp +decide (disch:=omega) only [if_true]
   rfl
 ·have hb:ltI (.ofNat 0) (.ofNat x1)=false:=by rw [zBi]; exact decide_eq_false hx
  simp +decide (disch:=omega) only [zJ,kQ,xG,Tr.get_put,if_true,if_false,cond_true,yH,decide_true,eqK,xT,hb]
  refine ⟨_,j1,_,.nils,[],rfl,by omega,⟨?_,?_,?_,?_⟩,hp.keep (qY.self hp1) ?_ (fun i k1 k2 k3 => ?_) hj,.inl ⟨rfl,rfl⟩,.inl rfl⟩
  all_goals simp +decide (disch:=omega) only [Tr.get_put,wH,g4,g5,g6,g7,a2,if_false]
def GX (j0 j:Nat) (t:Tr AB) (gv:AV) (x:Nat):Prop:=∃ (l1 l2 gb:Nat),gv=.slc (up .e gb) 0 2 2 (some 2)∧j0≤l1∧l1<l2∧l2<gb∧gb<j ∧
 t.get (up .e gb)=some (.cells [.int .i64 1,.slc (up .e l1) 0 2 2 (some 2),.int .i64 1,.slc (up .e l2) 0 2 2 (some 2)] false) ∧
 t.get (up .e l1)=some (.cells [.str (vF 0),.int .i64 (.ofNat x),.str (vF 1),.int .i64 (.ofNat x)] false) ∧
 t.get (up .e l2)=some (.cells [.str (vF 2),.int .i64 (.ofNat x),.str (vF 3),.int .i64 (.ofNat x)] false)
theorem GX.gv {j0 j:Nat} {t:Tr AB} {gv:AV} {x:Nat} (hj:3≤j0) (h:GX j0 j t gv x):GV t gv (gs2 x):=by
 obtain ⟨l1,l2,gb,rfl,h1,h2,h3,h4,k1,k2,k3⟩:=h
 refine .inr ⟨gb,some 2,[[.int .i64 1,.slc (up .e l1) 0 2 2 (some 2)],[.int .i64 1,.slc (up .e l2) 0 2 2 (some 2)]],false,fun i n=>i=l1∧n=lg2 0 1 x x∨i=l2∧n=lg2 2 3 x x,rfl,List.cons_ne_nil _ _,k1,⟨⟨_,rfl,.inr ⟨l1,_,rfl,.inl ⟨rfl,rfl⟩⟩,List.cons_ne_nil _ _,rfl⟩,⟨_,rfl,.inr ⟨l2,_,rfl,.inr ⟨rfl,rfl⟩⟩,List.cons_ne_nil _ _,rfl⟩,trivial⟩,fun i n hi => ?_,by omega,fun i n hi=>by omega⟩
 rcases hi with ⟨rfl,rfl⟩ | ⟨rfl,rfl⟩
 ·exact ⟨false,k2⟩
 ·exact ⟨false,k3⟩
set_option maxHeartbeats 1000000 in
theorem yE6 {nm:List Nat} {L:Sl Int} (hL:L.l.length<9223372036854775808) {many:Nat} (hm:4≤many) {pv:AV} {rs:List (List AV)} {nb j0:Nat} {Et:Nat→List Ed→Prop} (hj:3≤j0) {fr:Tr AV} {t:Tr AB} (hf:FrM fr many) (hp:xBf nm L many pv rs nb j0 Et .nils t) :
  ∃ fr' j' t' gv,xF K2 (xC K2 49) c19_g2 ⟨fr,[],⟨up .e j0,t,.lf⟩,.no,none,t19⟩=.nrm ⟨fr',[],⟨up .e j',t',.lf⟩,.no,none,t19⟩∧j0≤j'∧FrM fr' many∧xBf nm L many pv rs nb j0 Et gv t'∧(gv=.nils∨∃ x,x<2∧GX j0 j' t' gv x):=by
 obtain ⟨g4,g5,g6,g7⟩:=hf
 have hl:leI (.ofNat 4) (.ofNat many)=true:=by rw [yIi]; exact decide_eq_true hm
 have a2:=hp.2.2.1
 have hpv:pv.one=true:=hp.2.2.2.1.one
 simp +decide (disch:=omega) only [c19_g2_p,xF,wK,xI,xE,xZ,yT,zH,zJ,qW,xG,St.put,Tr.get_put,if_true,if_false,cond_true,yH,decide_true,eqK,xT,beq_self_eq_true,xDx,g5,g7,hl]
 generalize hR:xC K2 49 (g t51) _ _=R
 obtain ⟨x1,p1,j1,rfl,hx1,hj1,hp1⟩:=xAn (n:=3) (by decide) (by decide) hL hR hp.2.1
 by_cases hx:0<x1
 ·have hb:ltI (.ofNat 0) (.ofNat x1)=true:=by rw [zBi]; exact decide_eq_true hx
  have n0:=xB7 (k:=0) (by decide)
  have n1:=xB7 (k:=1) (by decide)
  have n2:=xB7 (k:=2) (by decide)
  have n3:=xB7 (k:=3) (by decide)
  obtain ⟨x2,p2,j2,hN,hx2,hj2,hp2⟩:=xAn (n:=2) (by decide) (by decide) hL (j:=j1) (q:=.e) rfl (qY.self (t:=t) (d:=up .e 1) hp1)
  simp +decide (disch:=omega) only [xF,wK,xI,xE,xZ,yT,zH,jC,zJ,qW,zN,pK,kQ,pL,H.newB,wW,setAt,jO,mM,mF,nT,dA,xA5,xEj,xBs,xG,St.put,Tr.get_put,if_true,if_false,cond_true,Nat.zero_add,Nat.zero_mul,Nat.one_mul,wC,wH,Bool.and_self,List.length,yH,nD,decide_true,Nat.reduceAdd,eqK,xT,Option.map_some,c19_g2t,hN,g5,g6,hb,n0,n1,n2,n3,a2]
  refine ⟨_,j2+1+1+1,_,_,rfl,by omega,⟨?_,?_,?_,?_⟩,hp.keep (((qY.self hp2).put (by omega) _).put (by omega) _ |>.put (by omega) _ |>.put (by omega) _) (by rw [Tr.get_put,if_pos rfl]) (fun i k1 k2 k3 => ?_) hj,
   .inr ⟨x2,hx2,j2,j2+1,j2+1+1,rfl,by omega,by omega,by omega,by omega,?_,?_,?_⟩⟩
  any_goals simp +decide (disch:=omega) only [Tr.get_put,wH,g4,g5,g6,g7,if_true,if_false]
  all_goals rfl
 ·have hb:ltI (.ofNat 0) (.ofNat x1)=false:=by rw [zBi]; exact decide_eq_false hx
  simp +decide (disch:=omega) only [zJ,kQ,xG,Tr.get_put,if_true,if_false,cond_true,yH,decide_true,eqK,xT,hb]
  refine ⟨_,j1,_,.nils,rfl,by omega,⟨?_,?_,?_,?_⟩,hp.keep (qY.self hp1) ?_ (fun i k1 k2 k3 => ?_) hj,.inl rfl⟩
  all_goals simp +decide (disch:=omega) only [Tr.get_put,wH,g4,g5,g6,g7,a2,if_false]
theorem yE7 {nm:List Nat} {L:Sl Int} {pv:AV} {rs:List (List AV)} {nb j0:Nat} {Et:Nat→List Ed→Prop} {fr:Tr AV} {j:Nat} {t:Tr AB} (hf:FrM fr 6) (hp:xBf nm L 6 pv rs nb j0 Et .nils t) :
  ∃ fr',xF K2 (xC K2 49) c19_g3 ⟨fr,[],⟨up .e j,t,.lf⟩,.no,none,t19⟩=.nrm ⟨fr',[],⟨up .e j,t,.lf⟩,.no,none,t19⟩∧FrM fr' 6:=by
 obtain ⟨g4,g5,g6,g7⟩:=hf
 have a2:=hp.2.2.1
 have hl:eqI (.ofNat 6) (.ofNat 6)=true:=rfl
 have h0:ltI (.ofNat 0) (.ofNat 0)=false:=rfl
 simp +decide (disch:=omega) only [c19_g3,xF,wK,xI,xE,xZ,yT,zH,qZ,zJ,zN,kQ,kA,jZ,H.cellsAt,wR,xBo,rM,rN,xS1,xG,zG,St.put,Tr.get_put,if_true,if_false,cond_true,cond_false,Nat.zero_add,yH,decide_true,eqK,xT,Option.map_some,beq_self_eq_true,xDx,g6,g7,hl,h0,a2]
 refine ⟨_,rfl,?_,?_,?_,?_⟩<;>simp +decide only [Tr.get_put,g4,g5,g6,g7,if_false]
theorem xLu (a b:Nat) (l:List Nat):(a::l).contains b=(decide (b=a)||l.contains b):=by
 simp only [List.contains_cons]
 by_cases h:b=a<;>simp [h]
theorem xLv (b:Nat):([]:List Nat).contains b=false:=rfl
theorem xW7 (m:List Nat) (p:Pend) (ps:List Pend):zT m (p::ps)=bif m.contains p.at_ then p::zT m ps else zT m ps:=by
 simp only [zT,List.filter]
 cases m.contains p.at_<;>rfl
theorem xVd (m:List Nat) (p:Pend) (ps:List Pend):gF m (p::ps)=bif m.contains p.at_ then gF m ps else p::gF m ps:=by
 simp only [gF,List.filter]
 cases m.contains p.at_<;>rfl
theorem xHd (h:H) (p:Pend) (ps:List Pend):h.withP (p::ps)=({ h with t:=h.t.put p.id p.b }:H).withP ps:=rfl
theorem zGy {m gb x n sz by_:Nat} {t:Tr AB} {old row:List AV} {sp sp':Bool} {A:Option (AV×H)} (hA:jD ⟨up .e m,t,.lf⟩ sz by_ (.slc (up .e gb) 0 n sz (some n)) (.slc (up .e x) 0 1 sz (some 1))=A)
  (hg:t.get (up .e gb)=some (.cells old sp)) (ho:old.length=n*sz) (hx:t.get (up .e x)=some (.cells row sp')) (hrow:row.length=sz) (hb:by_≤1000) (hn:n<1000000) :
  A=some (.slc (up .e m) 0 (n+1) sz none,⟨up .e (m+1),t.put (up .e m) (.cells (old++row) true),.lf⟩):=by
 have htk:takeD row 0 sz=some row:=pW hrow
 have hto:takeD old 0 (n*sz)=some old:=pW ho
 have hbig:(Nat.ble xQ ((n+1)*by_)||Nat.ble xQ (n+1))=false:=by
  have h1:(n+1)*by_≤1000001*1000:=Nat.mul_le_mul (by omega) hb
  have hB:1000001000<xQ:=by decide
  have h2:Nat.ble xQ ((n+1)*by_)=false:=by
   rw [nD]; exact decide_eq_false (by omega)
  have h3:Nat.ble xQ (n+1)=false:=by
   rw [nD]; exact decide_eq_false (by omega)
  rw [h2,h3]; rfl
 have hf1:bN ⟨up .e m,t,.lf⟩ sz 1 (.slc (up .e x) 0 1 sz (some 1))=some row:=by
  simp only [bN,yH,nD,decide_true,Nat.le_refl,Bool.and_self,cond_true,H.cellsAt,hx,Nat.one_mul,htk]
 have hzz:Nat.beq sz sz=true:=by rw [yH]; exact decide_eq_true rfl
 have h10:Nat.beq 1 0=false:=rfl
 have hc:Nat.ble (n+1) n=false:=by rw [nD]; exact decide_eq_false (by omega)
 rw [← hA]
 simp only [jD,xD9,hf1,hzz,h10,hbig,hc,cond_false,cond_true,H.cellsAt,hg,hto,H.newB,wC]
set_option maxHeartbeats 2000000 in
theorem yE8 {nm:List Nat} {L:Sl Int} (hL:L.l.length<9223372036854775808) {pv gv:AV} {rs:List (List AV)} {nb j0:Nat} {Et:Nat→List Ed→Prop} (hj:3≤j0) {fr:Tr AV} {j:Nat} {t:Tr AB} {x:Nat} (hx2:x<2) (hf:FrM fr 6) (hp:xBf nm L 6 pv rs nb j0 Et gv t) (hx:GX j0 j t gv x) :
  ∃ fr' j' t' gv' gs,xF K2 (xC K2 49) c19_g3 ⟨fr,[],⟨up .e j,t,.lf⟩,.no,none,t19⟩=.nrm ⟨fr',[],⟨up .e j',t',.lf⟩,.no,none,t19⟩∧FrM fr' 6∧xBf nm L 6 pv rs nb j0 Et gv' t'∧GV t' gv' gs∧GOK 6 gs:=by
 have hx':=hx
 obtain ⟨g4,g5,g6,g7⟩:=hf
 have a2:=hp.2.2.1
 have hpv:pv.one=true:=hp.2.2.2.1.one
 obtain ⟨l1,l2,gb,rfl,h1,h2,h3,h4,k1,k2,k3⟩:=hx
 have hl:eqI (.ofNat 6) (.ofNat 6)=true:=rfl
 have h0:ltI (.ofNat 0) (.ofNat 2)=true:=rfl
 simp +decide (disch:=omega) only [c19_g3_p,xF,wK,xI,xE,xZ,yT,zH,qZ,zJ,qW,zN,kQ,kA,jZ,H.cellsAt,wR,xBo,rM,rN,xXe,xG,zG,St.put,Tr.get_put,if_true,if_false,cond_true,Nat.zero_add,yH,decide_true,eqK,xT,Option.map_some,beq_self_eq_true,xDx,g5,g6,g7,hl,h0,a2]
 generalize hR:xC K2 49 (g t51) _ _=R
 obtain ⟨x1,p1,j1,rfl,hx1,hj1,hp1⟩:=xAn (n:=2) (by decide) (by decide) hL hR hp.2.1
 have hGX:∀ t':Tr AB,(∀ i,j0≤i→i<j→t'.get (up .e i)=t.get (up .e i))→GX j0 j t' (.slc (up .e gb) 0 2 2 (some 2)) x:=fun t' h=>⟨l1,l2,gb,rfl,h1,h2,h3,h4,(h gb (by omega) h4).trans k1,(h l1 (by omega) (by omega)).trans k2,(h l2 (by omega) (by omega)).trans k3⟩
 have hx01:x1=0∨x1=1:=by omega
 rcases hx01 with rfl | rfl
 ·have hb:eqI (.ofNat 0) (.ofNat 1)=false:=rfl
  simp +decide (disch:=omega) only [zJ,kQ,xG,zG,Tr.get_put,if_true,if_false,cond_true,yH,decide_true,eqK,xT,Option.map_some,hb]
  refine ⟨_,j1,_,_,gs2 x,rfl,⟨?_,?_,?_,?_⟩,hp.keep (qY.self hp1) ?_ (fun i k1 k2 k3 => ?_) hj,(hGX _ (fun i h1 h2 => ?_)).gv hj,.inr (.inr (.inl ⟨by decide,x,hx2,rfl⟩))⟩
  all_goals simp +decide (disch:=omega) only [Tr.get_put,wH,g4,g5,g6,g7,a2,if_false]
 ·have hb:eqI (.ofNat 1) (.ofNat 1)=true:=rfl
  have n5:=xB7 (k:=5) (by decide)
  have n4:=xB7 (k:=4) (by decide)
  have hi0:∀ id c,zF (.slc 2) (.slc id 0 2 2 c) i0=some (.ptr id 0):=fun _ _=>rfl
  have hi1:∀ id c,zF (.slc 2) (.slc id 0 2 2 c) i1=some (.ptr id 2):=fun _ _=>rfl
  obtain ⟨x3,p3,j3,hN,hx3,hj3,hp3⟩:=xAn (n:=3) (by decide) (by decide) hL (j:=j1+30) (q:=.e) rfl (qY.self (t:=t) (d:=up .e 1) hp1)
  simp +decide (maxSteps:=3000000) (disch:=omega) only [xF,xI,xE,xZ,yT,mK,jB,kD,xO,qM,yP,zX,dG,xGl,mH,kY,jL,zH,qZ,zJ,qW,zN,qK,pK,kQ,pL,xAs,xEf,jZ,H.cellsAt,H.newB,wR,xBo,rM,rN,setAt,jO,mM,nT,dA,xA5,xBs,xG,zG,St.put,Tr.get_put,if_true,if_false,cond_true,cond_false,Nat.zero_add,Nat.zero_mul,Nat.one_mul,kZ,xHb,wC,wH,beq_rfl,Bool.and_self,List.length,xS,quiet,qE,yH,nD,decide_true,decide_false,Nat.reduceAdd,Bool.true_and,Bool.and_true,Bool.false_and,Bool.or_false,Bool.or_true,List.all,eqK,xT,Option.map_some,c19_g3t,xLu,xLv,xW7,xVd,xHd,Nat.add_assoc,hN,hi0,hi1,n4,n5,g5,g6,hb,a2,k1,k2]
  generalize hA:jD _ 2 32 _ _=A
  have hA':=zGy hA (old:=[.int .i64 1,.slc (up .e l1) 0 2 2 (some 2),.int .i64 1,.slc (up .e l2) 0 2 2 (some 2)]) (sp:=false) (row:=[.int .i64 (.ofNat x3),.slc (up .e (j1+24)) 0 2 2 (some 2)]) (sp':=false)
   (by simp +decide (disch:=omega) only [Tr.get_put,wH,k1,if_false]) rfl (by simp +decide (disch:=omega) only [Tr.get_put,wH,if_true,if_false]) rfl (by decide) (by decide)
  subst hA'
  simp +decide (maxSteps:=3000000) (disch:=omega) only [qM,yP,zX,mH,kY,jC,jZ,H.cellsAt,wR,xBo,rM,rN,wW,setAt,mF,xEj,xBs,Tr.get_put,List.nil_append,List.cons_append,if_true,if_false,cond_true,cond_false,Nat.zero_add,wH,beq_rfl,Bool.and_self,List.length,qE,yH,nD,decide_true,decide_false,Nat.reduceAdd,Nat.reduceLeDiff,Bool.and_false,List.all,Option.map_some,g6,a2,k1,k2]
  refine ⟨_,j3+1,_,_,gs3 x x3,rfl,⟨?_,?_,?_,?_⟩,hp.keep ⟨p3,hp3,?_⟩ (by rw [Tr.get_put,if_pos rfl]; rfl) (fun i k1 k2 k3 => ?_) hj,
   .inr ⟨j3,none,[[.int .i64 1,.slc (up .e l1) 0 2 2 (some 2)],[.int .i64 1,.slc (up .e l2) 0 2 2 (some 2)],[.int .i64 (.ofNat x3),.slc (up .e (j1+24)) 0 2 2 (some 2)]],true,fun i n=>i=l1∧n=lg2 0 1 x x∨i=l2∧n=lg2 2 3 x x∨i=j1+24∧n=lg2 5 4 x x,rfl,List.cons_ne_nil _ _,?_,
    ⟨⟨_,rfl,.inr ⟨l1,_,rfl,.inl ⟨rfl,rfl⟩⟩,List.cons_ne_nil _ _,rfl⟩,⟨_,rfl,.inr ⟨l2,_,rfl,.inr (.inl ⟨rfl,rfl⟩)⟩,List.cons_ne_nil _ _,rfl⟩,⟨_,rfl,.inr ⟨j1+24,_,rfl,.inr (.inr ⟨rfl,rfl⟩)⟩,List.cons_ne_nil _ _,rfl⟩,trivial⟩,fun i n hi => ?_,by omega,fun i n hi=>by omega⟩,.inr (.inr (.inr ⟨rfl,x,x3,hx2,hx3,rfl⟩))⟩
  any_goals simp +decide (disch:=omega) only [Tr.get_put,wH,g4,g5,g6,g7,if_true,if_false]
  ·rfl
  ·rcases hi with ⟨rfl,rfl⟩ | ⟨rfl,rfl⟩ | ⟨rfl,rfl⟩
   ·refine ⟨false,?_⟩
    simp +decide (disch:=omega) only [wH,if_false]
    exact k2
   ·refine ⟨false,?_⟩
    simp +decide (disch:=omega) only [wH,if_false]
    exact k3
   ·refine ⟨false,?_⟩
    simp +decide (disch:=omega) only [if_true]
    rfl
end Go.Abs.Sym
end
section
namespace Go.Abs.Sym
open Go.Abs.T
open Go.Proofs
theorem kf2:K2.fuel=100000:=rfl
theorem xLw {d:Nat} {h:H} {id:Pth} {off len sz:Nat} {c:Option Nat} {cs l:List AV} (h1:h.cellsAt id=some cs) (h2:takeD cs off (len*sz)=some l):deep (d+1) h (.slc id off len sz c)=.rslc len (l.map (deep d h)):=by
 simp only [Abs.deep,h1,h2]
theorem zHm (d:Nat) (h:H) (cs:List AV):deep (d+1) h (.agg cs)=.agg (cs.map (deep d h)):=rfl
theorem xHm {nx:Pth} {t:Tr AB} {id:Pth} {cs:List AV} {sp:Bool} (h:t.get id=some (.cells cs sp)):H.cellsAt ⟨nx,t,.lf⟩ id=some cs:=by
 simp only [H.cellsAt,h]
theorem zFb {t:Tr AB} {nx:Pth} {lo hi nb:Nat} {pv:AV} {rs:List (List AV)} {Et:Nat→List Ed→Prop} (hgr:dV 7 t lo hi nb pv rs) (h0:0<rs.length) (hr:dJ Et rs) (hT:Typed edC Et t) :
  ∃ cs:List (Nat×Nat×Nat),cs.length=rs.length∧(∀ c∈cs,gY c)∧deep 7 ⟨nx,t,.lf⟩ pv=slV qP ⟨1,kM 0 cs⟩:=by
 obtain ⟨cs,h1,h2,h3⟩:=xQp (nx:=nx) hT 5 rs 0 (fun k r h=>by rw [Nat.zero_add]; exact hr k r h)
 rcases hgr with ⟨rfl,rfl,_⟩ | ⟨h4,rfl,h5,_⟩
 ·exact absurd h0 (by simp)
 ·have htk:takeD rs.flatten 0 (rs.length*7)=some rs.flatten:=pW (xCb (Rw:=fun r=>r.length=7) (fun _ h=>h) rs (fun r h=>hr.mem h))
  refine ⟨cs,h1,h2,?_⟩
  rw [xLw (xHm h5) htk,h3,xAr,mE,h1]
theorem xX3 {t:Tr AB} {nx:Pth} {gv:AV} {gs:List GateD} (hg:GV t gv gs):deep 7 ⟨nx,t,.lf⟩ gv=slV jP ⟨0,gs⟩:=by
 rcases hg with ⟨rfl,rfl⟩ | ⟨gb,c,rs',sp,Lt,rfl,hne,k3,k4,k5,_⟩
 ·rfl
 ·have hl:=k4.len
  have htk:takeD rs'.flatten 0 (gs.length*2)=some rs'.flatten:=pW (by rw [xCb (Rw:=fun r=>r.length=2) (fun _ h=>h) rs' hl.2,hl.1])
  rw [xLw (xHm k3) htk,k4.deep k5 5,← xAr]
  exact (zS8 jP (s:=⟨0,gs⟩) hne 1).symm
theorem GV.putL {t:Tr AB} {gv:AV} {gs:List GateD} (h:GV t gv gs) {i:Nat} (hi:i<3) (x:AB):GV (t.put (up .e i) x) gv gs:=by
 rcases h with h | ⟨gb,c,rs',sp,Lt,h1,hn,k3,k4,k5,k6,k7⟩
 ·exact .inl h
 ·refine .inr ⟨gb,c,rs',sp,Lt,h1,hn,?_,k4,k5.put (fun i n h=>by have:=k7 i n h; omega) x,k6,k7⟩
  rw [Tr.get_put,if_neg (fun e=>by rw [qL] at e; omega)]
  exact k3
theorem GV.put0 {t:Tr AB} {gv:AV} {gs:List GateD} (h:GV t gv gs) (x:AB):GV (t.put (up .e 0) x) gv gs:=h.putL (by decide) x
def xBp (nm:List Nat) (cs:List (Nat×Nat×Nat)) (gs:List GateD):TypD:=⟨nm,⟨1,kM 0 cs⟩,⟨0,gs⟩⟩
theorem zBz {nm:List Nat} {L:Sl Int} (hL:L.l.length<9223372036854775808) {many:Nat} (hm:many≤6) (h0m:0<many) {s:St} (h:MadeI nm L many 0 s):∃ v s',xF K2 (xC K2 49) c19_rest s=.ret s'∧s'.df=[]∧zQ s'.h s'.fr [.cell t4 (some 3)]=some v∧∃ cs gs,cs.length=many∧(∀ c∈cs,gY c)∧GOK many gs∧deep 8 s'.h v=.agg (tyC (xBp nm cs gs)):=by
 obtain ⟨fr,j,t,nb,pv,rs,Et,rfl,hj,hk,g4,g5,g6,g7,g8,a0,ad,a2,hg,hr,hT,hE⟩:=h.ex
 have hp:xBf nm L many pv rs nb j Et .nils t:=⟨a0,ad,a2,hg,by omega,hr,hT,hE⟩
 have hf:FrM fr many:=⟨g4,g5,g6,g7⟩
 have hgo : ∃ fr' j' t' gv gs,xF K2 (xC K2 49) c19_rest ⟨fr,[],⟨up .e j,t,.lf⟩,.no,none,t19⟩=xF K2 (xC K2 49) (.seq (.reg [⟨s178,.load (some 3),[v6],none⟩,⟨none,.store 3,[v4,v178],none⟩]) .ret) ⟨fr',[],⟨up .e j',t',.lf⟩,.no,none,t19⟩∧FrM fr' many∧xBf nm L many pv rs nb j Et gv t'∧GV t' gv gs∧GOK many gs:=by
  by_cases h4:many<4
  ·obtain ⟨fr1,j1,t1,gv,gs,e1,_,f1,p1,q1⟩:=yE5 hL h4 hj hf hp
   obtain ⟨fr2,e2,f2⟩:=zXw h4 (h:=⟨up .e j1,t1,.lf⟩) f1
   obtain ⟨fr3,e3,f3⟩:=zA1 (by omega) (h:=⟨up .e j1,t1,.lf⟩) f2
   refine ⟨fr3,j1,t1,gv,gs,?_,f3,p1,q1⟩
   rw [c19_rest]
   simp only [xF,e1,e2,e3]
  ·obtain ⟨fr1,e1,f1⟩:=zXv (by omega) (h:=⟨up .e j,t,.lf⟩) hf
   obtain ⟨fr2,j2,t2,gv,e2,hj2,f2,p2,q2⟩:=yE6 hL (by omega) hj f1 hp
   by_cases h6:many=6
   ·subst h6
    rcases q2 with rfl | ⟨x,hx,q2⟩
    ·obtain ⟨fr3,e3,f3⟩:=yE7 (j:=j2) f2 p2
     refine ⟨fr3,j2,t2,.nils,[],?_,f3,p2,.inl ⟨rfl,rfl⟩,.inl rfl⟩
     rw [c19_rest]
     simp only [xF,e1,e2,e3]
    ·obtain ⟨fr3,j3,t3,gv',gs,e3,f3,p3,q3⟩:=yE8 hL hj hx f2 p2 q2
     refine ⟨fr3,j3,t3,gv',gs,?_,f3,p3,q3⟩
     rw [c19_rest]
     simp only [xF,e1,e2,e3]
   ·obtain ⟨fr3,e3,f3⟩:=zA1 h6 (h:=⟨up .e j2,t2,.lf⟩) f2
    have hx:∃ gs,GV t2 gv gs∧GOK many gs:=by
     rcases q2 with rfl | ⟨x,hx,q2⟩
     ·exact ⟨[],.inl ⟨rfl,rfl⟩,.inl rfl⟩
     ·exact ⟨_,GX.gv hj q2,.inr (.inr (.inl ⟨by omega,x,hx,rfl⟩))⟩
    obtain ⟨gs,v1,v2⟩:=hx
    refine ⟨fr3,j2,t2,gv,gs,?_,f3,p2,v1,v2⟩
    rw [c19_rest]
    simp only [xF,e1,e2,e3]
 obtain ⟨fr',j',t',gv,gs,he,⟨f4,f5,f6,f7⟩,hp',hgv,hgk⟩:=hgo
 obtain ⟨b0,bd,b2,bg,bn,br,bT,bE⟩:=hp'
 have hpv:pv.one=true:=bg.one
 have hgo:gv.one=true:=by
  rcases hgv with ⟨rfl,_⟩ | ⟨_,_,_,_,_,rfl,_⟩<;>rfl
 rw [he]
 simp +decide (disch:=omega) only [xF,wK,xI,xE,xZ,yT,qZ,jC,jZ,H.cellsAt,wR,rM,rN,wW,setAt,mF,nT,xC6,St.put,Tr.get_put,if_true,if_false,cond_true,Nat.zero_add,Bool.and_self,List.length,yH,decide_true,Nat.reduceAdd,zQ,zB,Option.map_some,f4,f6,b0,b2,hpv,hgo]
 obtain ⟨cs,h1,h2,h3⟩:=zFb (nx:=up .e j') (t:=t'.put (up .e 0) (.cells [.str nm,pv,gv] false)) (bg.keep (Nat.le_refl _) (fun k1 k2=>by
  rw [Tr.get_put,if_neg (fun e=>by rw [qL] at e; omega)])) (by omega) br (bT.put (fun i n h=>by have:=bE i n h; omega) _)
 have q3:=xX3 (nx:=up .e j') (hgv.put0 (.cells [.str nm,pv,gv] false))
 refine ⟨.agg [.str nm,pv,gv],_,rfl,rfl,?_,cs,gs,by omega,h2,hgk,?_⟩
 ·simp +decide (disch:=omega) only [jZ,H.cellsAt,wR,rM,rN,Tr.get_put,if_true,if_false,Option.map_some,f4]
 ·rw [zHm]
  simp only [List.map_cons,List.map_nil,h3,q3]
  rfl
theorem yFe (L:Sl Int) (hL:L.l.length<9223372036854775808) (nm:List Nat):Ret (xC K2 50 (.fn t19 [] []) [slV inC L,.str nm] h0) (fun v h1=>∃ cs gs,2≤cs.length∧cs.length≤6∧(∀ c∈cs,gY c)∧GOK cs.length gs∧deep 8 h1 v=.agg (tyC (xBp nm cs gs))):=by
 have hs:∀ xs,K2.sums t19 xs h0=none:=fun _=>rfl
 have hF:K2.funcs.get t19=some c19:=rfl
 refine bH (hs _) hF fun fr t ga gb => ?_
 rw [c19_eq]
 simp +decide (disch:=omega) only [xF,wK,xI,xE,xZ,yT,zH,rH,xIc,jC,qW,pK,H.newB,wW,setAt,jO,mF,nT,xC6,xA5,xL4,xRb,St.put,Tr.get_put,if_true,if_false,cond_true,Nat.zero_add,wC,Bool.and_self,List.length,yH,nD,decide_true,Nat.reduceAdd,Option.map_some,ga,gb]
 have hd0:qY ((((t.put (up .e 0) (.cells [e0,.nils,.nils] false)).put (up .e 1) (.cells [slV inC L,i0] false)).put (up .e 2) (.cells [e0,.nils,.nils] false)).put (up .e 2) (.cells [.str nm,.nils,.nils] false)) (up .e 1) L:=by
  refine ⟨0,Nat.zero_le _,?_⟩
  simp +decide (disch:=omega) only [Tr.get_put,if_true,if_false]
 generalize hR:xC K2 49 (g t51) _ _=R
 obtain ⟨x,p,j,rfl,hx,hj,hp⟩:=xAn (n:=5) (by decide) (by decide) hL hR hd0
 have hw:=xAd 2 x (by omega)
 simp +decide (disch:=omega) only [zH,zJ,xG,Tr.get_put,if_true,if_false,cond_true,yH,decide_true,eqK,xT,hw,kf2]
 generalize hit:jQ (xF K2 (xC K2 49) c19_l0) 100000 _=o
 have ho:xYk nm L (2+x) o:=by
  rw [← hit]
  refine kW (MadeI nm L (2+x)) (xYk nm L (2+x)) (fun m s h=>xXg nm L hL (by omega) m s h) 100000 (2+x) _ ⟨_,j,_,0,.nils,[],fun _ _=>False,rfl,by omega,by simp,?_,?_,?_,?_,?_,?_,qY.self hp,?_,.inl ⟨rfl,rfl,rfl⟩,dJ.nil,fun _ _ h=>h.elim,fun _ _ h=>h.elim⟩ (by omega)
  all_goals simp +decide (disch:=omega) only [Tr.get_put,if_true,if_false,List.length_nil]
 obtain ⟨s,rfl,hs⟩:=ho
 obtain ⟨v,s',e1,e2,e3,cs,gs,k1,k2,k3,k4⟩:=zBz hL (by omega) (by omega) hs
 obtain ⟨fr',df,h,rc,rd,fn⟩:=s'
 simp only at e2 e3 k4
 subst e2
 simp +decide only [decide_true,cond_true,e1]
 exact ⟨v,h,zZ1 e3,cs,gs,by omega,by omega,k2,by rw [k1]; exact k3,k4⟩
end Go.Abs.Sym
end
end
section
namespace Go.Abs.Sym
open Go.Abs.T
theorem yA {a b:Prop} (h:a) (h':b):a∧b:=⟨h,h'⟩
theorem yC:type_of% (yA (yA (yA (yA (yA (yA (yA (yA @xF.eq_1 @xF.eq_2) (yA @xF.eq_3 @xF.eq_4)) (yA (yA @xF.eq_5 @xF.eq_6) (yA @xF.eq_7 @xF.eq_8))) (yA (yA (yA @xF.eq_9 @xF.eq_10) (yA @xF.eq_11 @wK.eq_1)) (yA (yA @wK.eq_2 @xI.eq_1) (yA @xI.eq_2 (yA @xE.eq_1 @xE.eq_2))))) (yA (yA (yA (yA @xZ.eq_1 @xZ.eq_2) (yA @xZ.eq_3 @yT.eq_1)) (yA (yA @mK.eq_1 @jB.eq_1) (yA @jB.eq_2 (yA @kD.eq_1 @xO.eq_1)))) (yA (yA (yA @xO.eq_2 @xO.eq_3) (yA @xO.eq_4 @xO.eq_5)) (yA (yA @xO.eq_6 @xO.eq_7) (yA @xO.eq_8 (yA @qM @yP)))))) (yA (yA (yA (yA (yA @zX @dG) (yA @zAz @xGl)) (yA (yA @mH @xD2) (yA @rG (yA @rd_not @zS0)))) (yA (yA (yA @xVu @kY) (yA @xI9 @jL)) (yA (yA @xF4 @zRz) (yA @xNw (yA @zAy @xSl))))) (yA (yA (yA (yA @xVt @zH) (yA @rH @xIc)) (yA (yA @qZ @jC) (yA @zJ (yA @xY9 @qW)))) (yA (yA (yA @zBa @zN) (yA @qK @pK)) (yA (yA @xO9 @nZ) (yA @kQ (yA @zSa @xW0))))))) (yA (yA (yA (yA (yA (yA @xId @kA) (yA @zS9 @xT3)) (yA (yA @xVz @pL) (yA @xAs @xVe))) (yA (yA (yA @zJ4 @xEf) (yA @jZ @xV3)) (yA (yA @yD2 @H.cellsAt.eq_1) (yA @H.newB.eq_1 (yA @wR.eq_1 @wR.eq_2))))) (yA (yA (yA (yA @xBo @rM) (yA @rN @wW.eq_1)) (yA (yA @wW.eq_2 @setAt.eq_1) (yA @setAt.eq_2 (yA @setAt.eq_3 @setAt.eq_4)))) (yA (yA (yA @jO.eq_1 @jO.eq_2) (yA @jO.eq_3 @mM.eq_1)) (yA (yA @mM.eq_2 @mM.eq_3) (yA @mF.eq_1 (yA @mF.eq_2 @nT)))))) (yA (yA (yA (yA (yA @xSb @xR9) (yA @xA9 @dA)) (yA (yA @xC6 @xA5) (yA @zAj (yA @xZ6 @zRf)))) (yA (yA (yA @zHj @zAk) (yA @xZ8 @xL4)) (yA (yA @xZ7 @xEj) (yA @xBs (yA @zAl @xZ9))))) (yA (yA (yA (yA @zAg @xZ3) (yA @zAi @xZ5)) (yA (yA @zAh @xZ4) (yA @xC5 (yA @xRb @xS1)))) (yA (yA (yA @xXe @xKy) (yA @zIv @xG.eq_1)) (yA (yA @xG.eq_2 @xG.eq_3) (yA @xG.eq_4 (yA @xG.eq_5 @xG.eq_6)))))))) (yA (yA (yA (yA (yA (yA (yA @xG.eq_7 @xG.eq_8) (yA @xG.eq_9 @xG.eq_10)) (yA (yA @xG.eq_11 @xG.eq_12) (yA @xG.eq_13 @xG.eq_14))) (yA (yA (yA @xG.eq_15 @xG.eq_16) (yA @xG.eq_17 @xG.eq_18)) (yA (yA @xG.eq_19 @xG.eq_20) (yA @xG.eq_21 (yA @xG.eq_22 @xG.eq_23))))) (yA (yA (yA (yA @xG.eq_24 @xG.eq_25) (yA @xG.eq_26 @xG.eq_27)) (yA (yA @xG.eq_28 @xG.eq_29) (yA @xG.eq_30 (yA @xG.eq_31 @xG.eq_32)))) (yA (yA (yA @xG.eq_33 @xG.eq_34) (yA @xG.eq_35 @xG.eq_36)) (yA (yA @xG.eq_37 @xG.eq_38) (yA @xG.eq_39 (yA @xG.eq_40 @zG.eq_1)))))) (yA (yA (yA (yA (yA @zG.eq_2 @zG.eq_3) (yA @zG.eq_4 @zG.eq_5)) (yA (yA @zG.eq_6 @zG.eq_7) (yA @zG.eq_8 (yA @zG.eq_9 @zG.eq_10)))) (yA (yA (yA @zG.eq_11 @zG.eq_12) (yA @zG.eq_13 @zG.eq_14)) (yA (yA @zG.eq_15 @zG.eq_16) (yA @zG.eq_17 (yA @zG.eq_18 @zG.eq_19))))) (yA (yA (yA (yA @zG.eq_20 @zG.eq_21) (yA @zG.eq_22 @zG.eq_23)) (yA (yA @zG.eq_24 @zG.eq_25) (yA @zG.eq_26 (yA @zG.eq_27 @zG.eq_28)))) (yA (yA (yA @zG.eq_29 @zG.eq_30) (yA @zG.eq_31 @zG.eq_32)) (yA (yA @zG.eq_33 @zG.eq_34) (yA @zG.eq_35 (yA @zG.eq_36 @zG.eq_37))))))) (yA (yA (yA (yA (yA (yA @zG.eq_38 @St.put.eq_1) (yA @St.put.eq_2 @Tr.get_put)) (yA (yA @yI.eq_1 @yI.eq_2) (yA @Pth.succ.eq_1 (yA @Pth.succ.eq_2 @Pth.succ.eq_3)))) (yA (yA (yA @List.nil_append.{0} @List.append_nil.{0}) (yA @List.cons_append.{0} @if_true.{1})) (yA (yA @if_false.{1} @cond_true.{1}) (yA @cond_false.{1} (yA @Nat.zero_add @Nat.add_zero))))) (yA (yA (yA (yA @Nat.zero_mul @Nat.one_mul) (yA @kZ @xHb)) (yA (yA @wC @List.drop.eq_1.{0}) (yA @List.drop.eq_2.{0} (yA @List.drop.eq_3.{0} @List.take.eq_1.{0})))) (yA (yA (yA @List.take.eq_2.{0} @List.take.eq_3.{0}) (yA @List.length.eq_1.{0} @List.length.eq_2.{0})) (yA (yA @xS.eq_1 @xS.eq_2) (yA @xS.eq_3 (yA @xS.eq_4 @xS.eq_5)))))) (yA (yA (yA (yA (yA @quiet.eq_1 @quiet.eq_2) (yA @quiet.eq_3 @qE.eq_1)) (yA (yA @qE.eq_2 @yH) (yA @nD (yA @decide_true @decide_false)))) (yA (yA (yA @Bool.true_and @Bool.and_true) (yA @Bool.and_false @Bool.false_and)) (yA (yA @Bool.or_false @Bool.or_true) (yA @Bool.true_or (yA @Bool.false_or @Bool.not_true))))) (yA (yA (yA (yA @Bool.not_false @List.all.eq_1.{0}) (yA @List.all.eq_2.{0} @eqK.eq_1)) (yA (yA @xT.eq_1 @xT.eq_2) (yA @xT.eq_3 (yA @xT.eq_4 @xT.eq_5)))) (yA (yA (yA @xT.eq_6 @xT.eq_7) (yA @xT.eq_8 @pU)) (yA (yA @Option.map_some.{0,0} @Option.map_none.{0,0}) (yA @beq_self_eq_true.{0} (yA @xDx @yBj))))))))):=yA (yA (yA (yA (yA (yA (yA (yA @xF.eq_1 @xF.eq_2) (yA @xF.eq_3 @xF.eq_4)) (yA (yA @xF.eq_5 @xF.eq_6) (yA @xF.eq_7 @xF.eq_8))) (yA (yA (yA @xF.eq_9 @xF.eq_10) (yA @xF.eq_11 @wK.eq_1)) (yA (yA @wK.eq_2 @xI.eq_1) (yA @xI.eq_2 (yA @xE.eq_1 @xE.eq_2))))) (yA (yA (yA (yA @xZ.eq_1 @xZ.eq_2) (yA @xZ.eq_3 @yT.eq_1)) (yA (yA @mK.eq_1 @jB.eq_1) (yA @jB.eq_2 (yA @kD.eq_1 @xO.eq_1)))) (yA (yA (yA @xO.eq_2 @xO.eq_3) (yA @xO.eq_4 @xO.eq_5)) (yA (yA @xO.eq_6 @xO.eq_7) (yA @xO.eq_8 (yA @qM @yP)))))) (yA (yA (yA (yA (yA @zX @dG) (yA @zAz @xGl)) (yA (yA @mH @xD2) (yA @rG (yA @rd_not @zS0)))) (yA (yA (yA @xVu @kY) (yA @xI9 @jL)) (yA (yA @xF4 @zRz) (yA @xNw (yA @zAy @xSl))))) (yA (yA (yA (yA @xVt @zH) (yA @rH @xIc)) (yA (yA @qZ @jC) (yA @zJ (yA @xY9 @qW)))) (yA (yA (yA @zBa @zN) (yA @qK @pK)) (yA (yA @xO9 @nZ) (yA @kQ (yA @zSa @xW0))))))) (yA (yA (yA (yA (yA (yA @xId @kA) (yA @zS9 @xT3)) (yA (yA @xVz @pL) (yA @xAs @xVe))) (yA (yA (yA @zJ4 @xEf) (yA @jZ @xV3)) (yA (yA @yD2 @H.cellsAt.eq_1) (yA @H.newB.eq_1 (yA @wR.eq_1 @wR.eq_2))))) (yA (yA (yA (yA @xBo @rM) (yA @rN @wW.eq_1)) (yA (yA @wW.eq_2 @setAt.eq_1) (yA @setAt.eq_2 (yA @setAt.eq_3 @setAt.eq_4)))) (yA (yA (yA @jO.eq_1 @jO.eq_2) (yA @jO.eq_3 @mM.eq_1)) (yA (yA @mM.eq_2 @mM.eq_3) (yA @mF.eq_1 (yA @mF.eq_2 @nT)))))) (yA (yA (yA (yA (yA @xSb @xR9) (yA @xA9 @dA)) (yA (yA @xC6 @xA5) (yA @zAj (yA @xZ6 @zRf)))) (yA (yA (yA @zHj @zAk) (yA @xZ8 @xL4)) (yA (yA @xZ7 @xEj) (yA @xBs (yA @zAl @xZ9))))) (yA (yA (yA (yA @zAg @xZ3) (yA @zAi @xZ5)) (yA (yA @zAh @xZ4) (yA @xC5 (yA @xRb @xS1)))) (yA (yA (yA @xXe @xKy) (yA @zIv @xG.eq_1)) (yA (yA @xG.eq_2 @xG.eq_3) (yA @xG.eq_4 (yA @xG.eq_5 @xG.eq_6)))))))) (yA (yA (yA (yA (yA (yA (yA @xG.eq_7 @xG.eq_8) (yA @xG.eq_9 @xG.eq_10)) (yA (yA @xG.eq_11 @xG.eq_12) (yA @xG.eq_13 @xG.eq_14))) (yA (yA (yA @xG.eq_15 @xG.eq_16) (yA @xG.eq_17 @xG.eq_18)) (yA (yA @xG.eq_19 @xG.eq_20) (yA @xG.eq_21 (yA @xG.eq_22 @xG.eq_23))))) (yA (yA (yA (yA @xG.eq_24 @xG.eq_25) (yA @xG.eq_26 @xG.eq_27)) (yA (yA @xG.eq_28 @xG.eq_29) (yA @xG.eq_30 (yA @xG.eq_31 @xG.eq_32)))) (yA (yA (yA @xG.eq_33 @xG.eq_34) (yA @xG.eq_35 @xG.eq_36)) (yA (yA @xG.eq_37 @xG.eq_38) (yA @xG.eq_39 (yA @xG.eq_40 @zG.eq_1)))))) (yA (yA (yA (yA (yA @zG.eq_2 @zG.eq_3) (yA @zG.eq_4 @zG.eq_5)) (yA (yA @zG.eq_6 @zG.eq_7) (yA @zG.eq_8 (yA @zG.eq_9 @zG.eq_10)))) (yA (yA (yA @zG.eq_11 @zG.eq_12) (yA @zG.eq_13 @zG.eq_14)) (yA (yA @zG.eq_15 @zG.eq_16) (yA @zG.eq_17 (yA @zG.eq_18 @zG.eq_19))))) (yA (yA (yA (yA @zG.eq_20 @zG.eq_21) (yA @zG.eq_22 @zG.eq_23)) (yA (yA @zG.eq_24 @zG.eq_25) (yA @zG.eq_26 (yA @zG.eq_27 @zG.eq_28)))) (yA (yA (yA @zG.eq_29 @zG.eq_30) (yA @zG.eq_31 @zG.eq_32)) (yA (yA @zG.eq_33 @zG.eq_34) (yA @zG.eq_35 (yA @zG.eq_36 @zG.eq_37))))))) (yA (yA (yA (yA (yA (yA @zG.eq_38 @St.put.eq_1) (yA @St.put.eq_2 @Tr.get_put)) (yA (yA @yI.eq_1 @yI.eq_2) (yA @Pth.succ.eq_1 (yA @Pth.succ.eq_2 @Pth.succ.eq_3)))) (yA (yA (yA @List.nil_append.{0} @List.append_nil.{0}) (yA @List.cons_append.{0} @if_true.{1})) (yA (yA @if_false.{1} @cond_true.{1}) (yA @cond_false.{1} (yA @Nat.zero_add @Nat.add_zero))))) (yA (yA (yA (yA @Nat.zero_mul @Nat.one_mul) (yA @kZ @xHb)) (yA (yA @wC @List.drop.eq_1.{0}) (yA @List.drop.eq_2.{0} (yA @List.drop.eq_3.{0} @List.take.eq_1.{0})))) (yA (yA (yA @List.take.eq_2.{0} @List.take.eq_3.{0}) (yA @List.length.eq_1.{0} @List.length.eq_2.{0})) (yA (yA @xS.eq_1 @xS.eq_2) (yA @xS.eq_3 (yA @xS.eq_4 @xS.eq_5)))))) (yA (yA (yA (yA (yA @quiet.eq_1 @quiet.eq_2) (yA @quiet.eq_3 @qE.eq_1)) (yA (yA @qE.eq_2 @yH) (yA @nD (yA @decide_true @decide_false)))) (yA (yA (yA @Bool.true_and @Bool.and_true) (yA @Bool.and_false @Bool.false_and)) (yA (yA @Bool.or_false @Bool.or_true) (yA @Bool.true_or (yA @Bool.false_or @Bool.not_true))))) (yA (yA (yA (yA @Bool.not_false @List.all.eq_1.{0}) (yA @List.all.eq_2.{0} @eqK.eq_1)) (yA (yA @xT.eq_1 @xT.eq_2) (yA @xT.eq_3 (yA @xT.eq_4 @xT.eq_5)))) (yA (yA (yA @xT.eq_6 @xT.eq_7) (yA @xT.eq_8 @pU)) (yA (yA @Option.map_some.{0,0} @Option.map_none.{0,0}) (yA @beq_self_eq_true.{0} (yA @xDx @yBj))))))))
theorem yE:type_of% (yA (yA (yA @yO.eq_1 (yA @yO.eq_2 @yO.eq_3)) (yA @yO.eq_4 (yA @yO.eq_5 @qS.eq_1))) (yA (yA @qS.eq_2 (yA @qS.eq_3 @zQ.eq_1)) (yA @zB.eq_1 (yA @zB.eq_2 @zB.eq_3)))):=yA (yA (yA @yO.eq_1 (yA @yO.eq_2 @yO.eq_3)) (yA @yO.eq_4 (yA @yO.eq_5 @qS.eq_1))) (yA (yA @qS.eq_2 (yA @qS.eq_3 @zQ.eq_1)) (yA @zB.eq_1 (yA @zB.eq_2 @zB.eq_3)))
theorem yM:type_of% (yA yC (yA yE @qL)):=yA yC (yA yE @qL)
theorem yX:type_of% (yA @beq_rfl (yA @Bool.and_self @Nat.add_assoc)):=yA @beq_rfl (yA @Bool.and_self @Nat.add_assoc)
theorem yF:type_of% (yA yM yX):=yA yM yX
theorem yK:type_of% (yA yC (yA @qL yX)):=yA yC (yA @qL yX)
theorem yL:type_of% (yA yC (yA @wH (yA @beq_rfl @Bool.and_self))):=yA yC (yA @wH (yA @beq_rfl @Bool.and_self))
theorem yQ:type_of% (yA yL yE):=yA yL yE
end Go.Abs.Sym
end
end
