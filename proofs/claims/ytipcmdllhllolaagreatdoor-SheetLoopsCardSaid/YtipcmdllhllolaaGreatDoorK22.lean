/- A part of the proof that LibSwaps answers true at every input: AbsSym17, AbsSym18, AbsLp2, AbsSym19, AbsSym20. -/
import Derived.Test.YtipcmdllhllolaaGreatDoorK21
noncomputable section
section
namespace Go.Abs.Sym
open Go.Abs.T
open Go.Proofs
def MadeQ (nm:List Nat) (L:Sl Int) (many:Nat) (o:Out):Prop:=∃ s,o=.exit 0 s∧MadeI nm L many 0 s
theorem mod2 (n:Nat) (h0:0<n) (hn:n<4000000000000000000) (a:Int):∃ x:Nat,x<n∧∀ h,K2.sums t61 [.int .i64 a,.int .i64 (.ofNat n)] h=some (.int .i64 (.ofNat x)):=by
 obtain ⟨x,h1,h2⟩:=mod_sum a h0 hn
 exact ⟨x,h1,fun h=>by rw [sums2_1 _ _ _ rfl]; exact h2 h⟩
theorem next2 {n:Nat} (h0:0<n) (hn:n<4000000000000000000) {L:Sl Int} (hL:L.l.length<9223372036854775808) {d:Pth} {q:Pth} {j:Nat} {t:Tr AB} {R:CRes}
  (hR:callN K2 49 (g t22) [.ptr d 0,.int .i64 (.ofNat n)] ⟨up q j,t,.lf⟩=R) (hd:DrawAt t d L) :
  ∃ x pos j',R=.ret (.int .i64 (.ofNat x)) ⟨up q j',t.put d (.cells [slV inC L,.int .i64 (.ofNat pos)] false),.lf⟩∧x<n∧j≤j'∧pos≤L.l.length :=
 next_call (X:=K2) (m:=47) (fun _ _=>rfl) rfl (mod2 n h0 hn) h0 hL hR hd
theorem DrawAt.put {t:Tr AB} {i j:Nat} {L:Sl Int} (h:DrawAt t (up .e i) L) (hij:i≠j) (x:AB):DrawAt (t.put (up .e j) x) (up .e i) L:=by
 obtain ⟨pos,h1,h2⟩:=h
 exact ⟨pos,h1,by rw [gp,if_neg (fun e=>hij (by rw [up_inj] at e; exact e))]; exact h2⟩
theorem DrawAt.self {t:Tr AB} {d:Pth} {L:Sl Int} {pos:Nat} (h:pos≤L.l.length):DrawAt (t.put d (.cells [slV inC L,.int .i64 (.ofNat pos)] false)) d L :=
 ⟨pos,h,by rw [gp,if_pos rfl]⟩
theorem drill_eq {a b:Nat} (ha:a<4) (hb:b<2):∃ d,d<4∧wrapA .i64 (wrapA .i64 (.ofNat 2 * .ofNat a) * .ofNat b)=.ofNat (2*d):=by
 match a,ha,b,hb with
 | _,_,0,_=>exact ⟨0,by decide,by rw [show (Int.ofNat 0)=0 from rfl,Int.mul_zero]; rfl⟩
 | 0,_,1,_=>exact ⟨0,by decide,rfl⟩
 | 1,_,1,_=>exact ⟨1,by decide,rfl⟩
 | 2,_,1,_=>exact ⟨2,by decide,rfl⟩
 | 3,_,1,_=>exact ⟨3,by decide,rfl⟩
theorem disc_r {x:Nat} (hx:x<3):wrapA .i64 (.ofNat 4 + .ofNat x)=shR (1+x)∧shK (1+x)=1∧∀ a b,shE a b (1+x)=[⟨1,a,b,a,b,0,0⟩]:=by
 match x,hx with
 | 0,_=>exact ⟨rfl,rfl,fun _ _=>rfl⟩
 | 1,_=>exact ⟨rfl,rfl,fun _ _=>rfl⟩
 | 2,_=>exact ⟨rfl,rfl,fun _ _=>rfl⟩
theorem made_tail (nm:List Nat) (L:Sl Int) (hL:L.l.length<9223372036854775808) {many m:Nat} (hm:many≤6) {fr:Tr AV} {j:Nat} {t:Tr AB} {nb pb:Nat} {pv:AV} {rs:List (List AV)} {Et:Nat→List Ed→Prop}
  {yb si:Nat} (hyb:yb<2) (hsi:si<5) {ev:AV} {o:Out} (hX:execA K2 (callN K2 49) c20_tl ⟨fr,[],⟨up .e j,t,.lf⟩,.no,none,t20⟩=o)
  (_hj:3≤j) (hk:rs.length+(m+1)=many) (g4:fr.get t4=some (.ptr (up .e 0) 0)) (g5:fr.get t5=some (.ptr (up .e 1) 0)) (g6:fr.get t6=some (.ptr (up .e 2) 0)) (g7:fr.get t7=some (.int .i64 (.ofNat many))) (g8:fr.get t8=some (.int .i64 (.ofNat rs.length)))
  (g9:fr.get t9=some (.ptr (up .e pb) 0)) (hpb:3≤pb) (hpj:pb<j)
  (a0:t.get (up .e 0)=some (.cells [e0,.nils,.nils] false)) (ad:DrawAt t (up .e 1) L) (a2:t.get (up .e 2)=some (.cells [.str nm,pv,.nils] false))
  (ap:t.get (up .e pb)=some (.cells [.str (nmOf rs.length),.int .i64 (shK si),ev,.int .i64 (shR si),.int .i64 (pX rs.length),.int .i64 (pY yb),.int .i64 0] false)) (he:SlT edC 7 Et ev (shE (pX rs.length) (pY yb) si))
  (hg:Grow 7 t 3 j nb pv rs) (hnb:nb≠pb) (hr:PadRs Et rs) (hT:Typed edC Et t) (hE:∀ i n,Et i n→3≤i∧i<j∧i≠nb∧i≠pb) :
  ∃ fr' j' t' nb' pv' row,o=.nrm ⟨fr',[],⟨up .e j',t',.lf⟩,.no,none,t20⟩∧3≤j' ∧
   fr'.get t4=some (.ptr (up .e 0) 0)∧fr'.get t5=some (.ptr (up .e 1) 0)∧fr'.get t6=some (.ptr (up .e 2) 0)∧fr'.get t7=some (.int .i64 (.ofNat many))∧fr'.get t8=some (.int .i64 (.ofNat rs.length)) ∧
   t'.get (up .e 0)=some (.cells [e0,.nils,.nils] false)∧DrawAt t' (up .e 1) L∧t'.get (up .e 2)=some (.cells [.str nm,pv',.nils] false) ∧
   Grow 7 t' 3 j' nb' pv' (rs++[row])∧PadR Et rs.length row∧Typed edC Et t'∧(∀ i n,Et i n→3≤i∧i<j'∧i≠nb'):=by
 rw [← hX]
 simp +decide (disch:=omega) only [c20_tl,execA,opsA,wantedA,evalAll,evalA,oneA,st_mov,st_call,st_buildSl,H.newB,St.put,gp,if_true,g5]
 generalize hR1:callN K2 49 (g t22) _ _=R1
 obtain ⟨x1,p1,j1,rfl,hx1,hj1,hp1⟩:=next2 (n:=4) (by decide) (by decide) hL hR1 ad
 simp +decide (disch:=omega) only [st_mov,st_bin,st_call,binAV,gp,if_true,if_false,cond_true,nbeq,decide_true,eqK,kindNo,g5]
 generalize hR2:callN K2 49 (g t22) _ _=R2
 obtain ⟨x2,p2,j2,rfl,hx2,hj2,hp2⟩:=next2 (n:=2) (by decide) (by decide) hL hR2 (DrawAt.self hp1)
 have hev:=he.one
 obtain ⟨dd,hdd,edd⟩:=drill_eq hx1 hx2
 simp +decide (disch:=omega) only [st_load,st_store,st_bin,st_fieldAddr,st_append,ld_ptr,H.cellsAt,partA,tk_s,tk_0,tk_c,storeA,setAt,fillS,ones,cl_agg,on_int,cl_int,binAV,gp,if_true,if_false,cond_true,Nat.zero_add,Nat.zero_mul,up_succ,up_ne,Bool.and_self,List.length,nbeq,nble,decide_true,Nat.reduceAdd,eqK,kindNo,Option.map_some,g6,g9,a2,ap]
 generalize hA:appendA _ 7 80 _ _=A
 have hE':∀ i n,Et i n→i≠1∧i≠pb∧i≠j2:=fun i n h=>by
  have:=hE i n h
  omega
 obtain ⟨t2,rfl,b1,b2,b3⟩:=Grow.append (hg.keep (hi':=j2+1) (by omega) (fun _ _=>by simp +decide (disch:=omega) only [gp,up_ne,if_false])) hA (sp:=false)
  (by rw [gp,if_pos rfl]) rfl (by simp only [ones,on_str,on_int,hev,Bool.and_self]) (fun r h=>hr.mem h) (by decide) (by omega) (by omega)
 have q0:=(b2 0 (by omega) (fun _ _=>by omega)).trans (by simp +decide (disch:=omega) only [gp,up_ne,if_false]; exact a0)
 have q1:DrawAt t2 (up .e 1) L:=by
  refine ⟨p2,hp2,(b2 1 (by omega) (fun _ _=>by omega)).trans ?_⟩
  simp +decide (disch:=omega) only [gp,up_ne,if_true,if_false]
 have q2:=(b2 2 (by omega) (fun _ _=>by omega)).trans (by simp +decide (disch:=omega) only [gp,up_ne,if_false]; exact a2)
 have qT:Typed edC Et t2:=by
  intro i n hi
  have h1:=hE i n hi
  obtain ⟨sp,h3⟩:=hT i n hi
  refine ⟨sp,(b2 i (by omega) (fun _ _=>by omega)).trans ?_⟩
  simp +decide (disch:=omega) only [gp,up_ne,if_false]
  exact h3
 simp +decide (disch:=omega) only [st_store,st_fieldAddr,storeA,setAt,ones,on_slc,cl_slc,gp,if_true,if_false,cond_true,Nat.zero_add,Bool.and_self,List.length,nbeq,decide_true,Option.map_some,g6,q2]
 refine ⟨_,_,_,_,_,_,rfl,?_,?_,?_,?_,?_,?_,?_,q1.put (by omega) _,by rw [gp,if_pos rfl],b3.keep (Nat.le_refl _) (fun _ _ => ?_),⟨yb,si,dd,ev,hyb,hsi,hdd,by rw [edd],he⟩,qT.put (fun i n h => ?_) _,fun i n h => ?_⟩
 any_goals simp +decide (disch:=omega) only [gp,up_ne,g4,g5,g6,g7,g8,q0,if_false]
 ·omega
 ·have:=hE i n h
  omega
 ·have:=hE i n h
  omega
theorem names2 {k:Nat} (hk:k<6) (h:H):callN K2 49 (g t59) [.int .i64 (.ofNat k)] h=.ret (.str (nmOf k)) h:=call_sum (by rw [List.nil_append,List.append_nil,sums2_1 _ _ _ rfl]; exact names_sum hk h)
theorem rect2 (a b c d:Int) (h:H):callN K2 49 (g t60) [.agg [.int .i64 a,.int .i64 b,.int .i64 c,.int .i64 d]] h=.ret (.agg [.int .i64 2,slV edC (rectE a b c d),.int .i64 0]) h:=call_sum (by rw [List.nil_append,List.append_nil,sums2_1 _ _ _ rfl]; exact rect_sum a b c d h)
theorem disc2 (x y r:Int) (h:H):callN K2 49 (g t47) [.agg [.int .i64 x,.int .i64 y],.int .i64 r] h=.ret (.agg [.int .i64 1,slV edC (discE x y),.int .i64 r]) h:=call_sum (by rw [List.nil_append,List.append_nil,sums2_1 _ _ _ rfl]; exact disc_sum x y r h)
theorem made_sw (nm:List Nat) (L:Sl Int) (hL:L.l.length<9223372036854775808) {many x2:Nat} (hx2:x2<3) {fr:Tr AV} {j:Nat} {t:Tr AB} {nb pb xb:Nat} {pv:AV} {rs:List (List AV)} {Et:Nat→List Ed→Prop}
  {pn:List Nat} {x y:Int} {o:Out} (hX:execA K2 (callN K2 49) c20_sw ⟨fr,[],⟨up .e j,t,.lf⟩,.no,none,t20⟩=o)
  (hj:3≤j) (g4:fr.get t4=some (.ptr (up .e 0) 0)) (g5:fr.get t5=some (.ptr (up .e 1) 0)) (g6:fr.get t6=some (.ptr (up .e 2) 0)) (g7:fr.get t7=some (.int .i64 (.ofNat many))) (g8:fr.get t8=some (.int .i64 (.ofNat rs.length)))
  (g9:fr.get t9=some (.ptr (up .e pb) 0)) (g10:fr.get t10=some (.ptr (up .e xb) 0)) (g37:fr.get t37=some (.int .i64 (.ofNat x2))) (hpb:3≤pb) (hpx:pb<xb) (hxj:xb<j)
  (a0:t.get (up .e 0)=some (.cells [e0,.nils,.nils] false)) (ad:DrawAt t (up .e 1) L) (a2:t.get (up .e 2)=some (.cells [.str nm,pv,.nils] false))
  (ap:t.get (up .e pb)=some (.cells [.str pn,.int .i64 0,.nils,.int .i64 0,.int .i64 x,.int .i64 y,.int .i64 0] false)) (ax:t.get (up .e xb)=some (.cells [.int .i64 x,.int .i64 y] false))
  (hg:Grow 7 t 3 j nb pv rs) (hnb:nb≠pb) (hT:Typed edC Et t) (hE:∀ i n,Et i n→3≤i∧i<j∧i≠nb∧i≠pb) :
  ∃ fr' j' t' ev si Et',o=.nrm ⟨fr',[],⟨up .e j',t',.lf⟩,.no,none,t20⟩∧j≤j' ∧
   fr'.get t4=some (.ptr (up .e 0) 0)∧fr'.get t5=some (.ptr (up .e 1) 0)∧fr'.get t6=some (.ptr (up .e 2) 0)∧fr'.get t7=some (.int .i64 (.ofNat many))∧fr'.get t8=some (.int .i64 (.ofNat rs.length)) ∧
   fr'.get t9=some (.ptr (up .e pb) 0)∧t'.get (up .e 0)=some (.cells [e0,.nils,.nils] false)∧DrawAt t' (up .e 1) L∧t'.get (up .e 2)=some (.cells [.str nm,pv,.nils] false) ∧
   si<5∧t'.get (up .e pb)=some (.cells [.str pn,.int .i64 (shK si),ev,.int .i64 (shR si),.int .i64 x,.int .i64 y,.int .i64 0] false)∧SlT edC 7 Et' ev (shE x y si) ∧
   Grow 7 t' 3 j' nb pv rs∧Typed edC Et' t'∧(∀ i n,Et' i n→3≤i∧i<j'∧i≠nb∧i≠pb)∧(∀ i n,Et i n→Et' i n):=by
 have hnj:nb<j:=by
  rcases hg with ⟨_,_,h⟩ | ⟨_,_,_,_,h⟩<;>omega
 have hnb3:∀ t':Tr AB,(3≤nb→t'.get (up .e nb)=t.get (up .e nb))→∀ j',j≤j'→Grow 7 t' 3 j' nb pv rs:=fun t' h j' hj'=>hg.keep hj' (fun h1 _=>h h1)
 rw [← hX]
 have q00:eqI (.ofNat 0) (.ofNat 0)=true:=rfl
 have q10:eqI (.ofNat 1) (.ofNat 0)=false:=rfl
 have q11:eqI (.ofNat 1) (.ofNat 1)=true:=rfl
 have q20:eqI (.ofNat 2) (.ofNat 0)=false:=rfl
 have q21:eqI (.ofNat 2) (.ofNat 1)=false:=rfl
 have hx:x2=0∨x2=1∨x2=2:=by omega
 rcases hx with rfl | rfl | rfl
 ·simp +decide (disch:=omega) only [execA,opsA,wantedA,evalAll,evalA,oneA,st_mov,st_load,st_store,st_bin,st_call,st_fieldAddr,st_build,ld_ptr,H.cellsAt,partA,tk_s,tk_0,tk_c,storeA,setAt,fillA,ones,cl_agg,on_int,cl_int,on_slV,binAV,eqAV,St.put,gp,if_true,if_false,cond_true,Nat.zero_add,Nat.add_zero,Bool.and_self,List.length,nbeq,nble,decide_true,Nat.reduceAdd,eqK,kindNo,Option.map_some,g9,g10,g37,ap,ax,rect2,c20_sw,q00]
  refine ⟨_,j,_,_,0,Et,rfl,Nat.le_refl _,?_,?_,?_,?_,?_,?_,?_,ad.put (by omega) _,?_,by decide,by rw [gp,if_pos rfl]; rfl,.inl ⟨_,rfl,rfl⟩,hnb3 _ (fun _ => ?_) _ (Nat.le_refl _),hT.put (fun i n h => ?_) _,hE,fun _ _ h=>h⟩
  any_goals simp +decide (disch:=omega) only [gp,up_ne,g4,g5,g6,g7,g8,g9,a0,a2,if_false]
  have:=hE i n h
  omega
 ·simp +decide (disch:=omega) only [execA,opsA,wantedA,evalAll,evalA,oneA,dregA,dopsA,dstep,isMaker,withP_nil,takesP_nil,leavesP_nil,rd_mov,rd_load,st_mov,st_load,st_bin,st_call,ld_ptr,H.cellsAt,partA,tk_0,tk_c,binAV,eqAV,St.put,gp,if_true,if_false,cond_true,cond_false,Nat.zero_add,skip_up0,up_up,up_succ,beq_rfl,Bool.and_self,List.length,seesHeap,quiet,recheck,nbeq,nble,decide_true,Nat.reduceAdd,Bool.true_and,Bool.and_true,Bool.false_and,Bool.or_true,List.all,eqK,kindNo,Option.map_some,g5,g10,g37,ax,c20_sw,q10,q11]
  generalize hR:callN K2 49 (g t22) _ _=R
  obtain ⟨x3,p3,j3,rfl,hx3,hj3,hp3⟩:=next2 (n:=3) (by decide) (by decide) hL hR ad
  simp +decide (disch:=omega) only [withP_nil,takesP_nil,leavesP_nil,rd_load,rd_bin,rd_fieldp,st_store,st_call,ld_ptr,H.cellsAt,partA,tk_0,tk_c,storeA,setAt,ones,cl_agg,on_int,on_slV,binAV,gp,if_true,if_false,cond_true,cond_false,Nat.zero_add,up_ne,beq_rfl,Bool.and_self,List.length,recheck,nbeq,nble,decide_true,decide_false,Nat.reduceAdd,Nat.reduceLeDiff,Bool.and_false,List.all,eqK,kindNo,Option.map_some,g9,ap,ax,disc2]
  obtain ⟨dr1,dr2,dr3⟩:=disc_r hx3
  refine ⟨_,j3,_,_,1+x3,Et,rfl,by omega,?_,?_,?_,?_,?_,?_,?_,(DrawAt.self hp3).put (by omega) _,?_,by omega,by rw [gp,if_pos rfl,dr1,dr2],.inl ⟨_,(dr3 _ _).symm,rfl⟩,hnb3 _ (fun _ => ?_) _ (by omega),(hT.put (fun i n h => ?_) _).put (fun i n h => ?_) _,fun i n h => ?_,fun _ _ h=>h⟩
  any_goals simp +decide (disch:=omega) only [gp,up_ne,g4,g5,g6,g7,g8,g9,a0,a2,if_false]
  all_goals have:=hE i n h
  all_goals omega
 ·simp +decide (disch:=omega) only [execA,opsA,wantedA,evalAll,evalA,oneA,st_mov,st_load,st_store,st_bin,st_fieldAddr,st_build,st_buildSl,ld_ptr,H.cellsAt,H.newB,partA,tk_s,tk_0,tk_c,storeA,setAt,fillA,fillS,ones,cl_agg,on_int,cl_int,on_slc,cl_slc,binAV,eqAV,St.put,gp,if_true,if_false,cond_true,Nat.zero_add,Nat.add_zero,Nat.zero_mul,up_succ,up_ne,Bool.and_self,List.length,nbeq,nble,decide_true,Nat.reduceAdd,eqK,kindNo,Option.map_some,g9,g10,g37,ap,ax,c20_sw,q20,q21]
  have hT':∀ t':Tr AB,(∀ i,i≠pb→i≠j→t'.get (up .e i)=t.get (up .e i))→Typed edC Et t':=by
   intro t' h i n hi
   have h1:=hE i n hi
   obtain ⟨sp,h3⟩:=hT i n hi
   exact ⟨sp,(h i (by omega) (by omega)).trans h3⟩
  refine ⟨_,j+1,_,_,4,fun i n=>Et i n∨i=j∧n=shE x y 4,rfl,by omega,?_,?_,?_,?_,?_,?_,?_,(ad.put (by omega) _).put (by omega) _,?_,by decide,by rw [gp,if_pos rfl]; rfl,.inr ⟨j,_,rfl,.inr ⟨rfl,rfl⟩⟩,hnb3 _ (fun _ => ?_) _ (by omega),
   Typed.add (ls:=shE x y 4) (sp:=false) (hT' _ (fun i h1 h2 => ?_)) ?_,fun i n h => ?_,fun _ _ h=>.inl h⟩
  any_goals simp +decide (disch:=omega) only [gp,up_ne,g4,g5,g6,g7,g8,g9,a0,a2,if_true,if_false]
  ·rfl
  ·rcases h with h | ⟨rfl,rfl⟩
   ·have:=hE i n h
    omega
   ·omega
end Go.Abs.Sym
end
section
namespace Go.Abs.Sym
open Go.Abs.T
open Go.Proofs
theorem pX_eq {k:Nat} (h:k<6):wrapA .i64 (.ofNat 30 * .ofNat k)=pX k:=by
 match k,h with
 | 0,_=>rfl
 | 1,_=>rfl
 | 2,_=>rfl
 | 3,_=>rfl
 | 4,_=>rfl
 | 5,_=>rfl
theorem pY_eq {b:Nat} (h:b<2):wrapA .i64 (.ofNat 10 * .ofNat b)=pY b:=by
 match b,h with
 | 0,_=>rfl
 | 1,_=>rfl
theorem made_fin (nm:List Nat) (L:Sl Int) {many m:Nat} (hm:many≤6) {rs:List (List AV)} {Et:Nat→List Ed→Prop} (hk:rs.length+(m+1)=many) (hr:PadRs Et rs) {fr':Tr AV} {j':Nat} {t':Tr AB} {nb':Nat} {pv':AV} {row:List AV} {Et':Nat→List Ed→Prop}
  (hj':3≤j') (g4:fr'.get t4=some (.ptr (up .e 0) 0)) (g5:fr'.get t5=some (.ptr (up .e 1) 0)) (g6:fr'.get t6=some (.ptr (up .e 2) 0)) (g7:fr'.get t7=some (.int .i64 (.ofNat many))) (g8:fr'.get t8=some (.int .i64 (.ofNat rs.length)))
  (a0:t'.get (up .e 0)=some (.cells [e0,.nils,.nils] false)) (ad:DrawAt t' (up .e 1) L) (a2:t'.get (up .e 2)=some (.cells [.str nm,pv',.nils] false))
  (hg':Grow 7 t' 3 j' nb' pv' (rs++[row])) (hrow:PadR Et' rs.length row) (hT':Typed edC Et' t') (hE':∀ i n,Et' i n→3≤i∧i<j'∧i≠nb') (hEE:∀ i n,Et i n→Et' i n) :
  Stp (MadeI nm L many) (MadeQ nm L many) (m+1) (execA K2 (callN K2 49) (.reg [⟨s23,.mov,[v8],none⟩,⟨s24,.bin .add .one,[v23,.const i1],none⟩,⟨s8,.mov,[v24],none⟩]) ⟨fr',[],⟨up .e j',t',.lf⟩,.no,none,t20⟩):=by
 have hw:=wr_add rs.length 1 (by omega)
 simp +decide (disch:=omega) only [execA,opsA,wantedA,evalAll,evalA,oneA,st_mov,st_bin,binAV,St.put,gp,if_true,if_false,cond_true,nbeq,decide_true,eqK,kindNo,g8,hw,stp_n]
 have hl:(rs++[row]).length=rs.length+1:=by rw [List.length_append]; rfl
 refine ⟨m,by omega,⟨_,j',t',nb',pv',rs++[row],Et',rfl,hj',by omega,?_,?_,?_,?_,?_,a0,ad,a2,hg',(hr.mono hEE).snoc hrow,hT',hE'⟩⟩
 any_goals simp +decide only [gp,g4,g5,g6,g7,g8,hl,if_true,if_false]
set_option maxHeartbeats 1000000 in
theorem made_round (nm:List Nat) (L:Sl Int) (hL:L.l.length<9223372036854775808) {many:Nat} (hm:many≤6) (m:Nat) (s:St) (h:MadeI nm L many m s) :
  Stp (MadeI nm L many) (MadeQ nm L many) m (execA K2 (callN K2 49) c20_l0 s):=by
 obtain ⟨fr,j,t,nb,pv,rs,Et,rfl,hj,hk,g4,g5,g6,g7,g8,a0,ad,a2,hg,hr,hT,hE⟩:=h.ex
 have hnb:nb<j:=by
  rcases hg with ⟨_,_,h⟩ | ⟨_,_,_,_,h⟩<;>omega
 cases m with
 | zero =>
  have hkn:(rs.length<many)=False:=eq_false (by omega)
  simp +decide (disch:=omega) only [c20_l0,execA,opsA,wantedA,evalAll,evalA,oneA,st_mov,st_bin,binAV,St.put,gp,if_true,if_false,cond_true,nbeq,decide_true,decide_false,eqK,kindNo,g7,g8,ltI_dec,hkn,stp_e]
  refine ⟨_,rfl,⟨_,j,t,nb,pv,rs,Et,rfl,hj,hk,?_,?_,?_,?_,?_,a0,ad,a2,hg,hr,hT,hE⟩⟩
  all_goals simp +decide only [gp,g4,g5,g6,g7,g8,if_false]
 | succ m =>
  have hkn:(rs.length<many)=True:=eq_true (by omega)
  have hk6:rs.length<6:=by omega
  have hnm:=names2 (k:=rs.length) hk6
  simp +decide (disch:=omega) only [c20_l0,execA,opsA,wantedA,evalAll,evalA,oneA,st_mov,st_alloc,st_bin,st_call,st_build,H.newB,binAV,St.put,gp,if_true,if_false,cond_true,nbeq,decide_true,eqK,kindNo,g5,g7,g8,ltI_dec,hkn,hnm]
  generalize hR1:callN K2 49 (g t22) _ _=R1
  obtain ⟨x1,p1,j1,rfl,hx1,hj1,hp1⟩:=next2 (n:=2) (by decide) (by decide) hL hR1 ad
  simp +decide (disch:=omega) only [execA,opsA,wantedA,evalAll,evalA,oneA,st_mov,st_alloc,st_load,st_store,st_bin,st_call,st_fieldAddr,ld_ptr,H.cellsAt,H.newB,partA,tk_s,tk_0,tk_c,storeA,setAt,fillA,ones,cl_agg,on_int,cl_int,on_str,cl_str,on_nils,binAV,St.put,gp,if_true,if_false,cond_true,Nat.zero_add,up_succ,up_ne,Bool.and_self,List.length,nbeq,nble,decide_true,Nat.reduceAdd,eqK,kindNo,Option.map_some,c20_b,g5]
  generalize hR2:callN K2 49 (g t22) _ _=R2
  obtain ⟨x2,p2,j2,rfl,hx2,hj2,hp2⟩:=next2 (n:=3) (by decide) (by decide) hL hR2 (((((DrawAt.self hp1).put (by omega) _).put (by omega) _).put (by omega) _).put (by omega) _)
  simp +decide (disch:=omega) only
  rw [pX_eq hk6,pY_eq hx1]
  generalize hX:execA K2 (callN K2 49) c20_sw _=o
  have hT':∀ t':Tr AB,(∀ i,2≤i→i<j→t'.get (up .e i)=t.get (up .e i))→Typed edC Et t':=by
   intro t' h i n hi
   have h1:=hE i n hi
   obtain ⟨sp,h3⟩:=hT i n hi
   exact ⟨sp,(h i (by omega) (by omega)).trans h3⟩
  have hg':∀ t':Tr AB,(∀ i,2≤i→i<j→t'.get (up .e i)=t.get (up .e i))→∀ j',j≤j'→Grow 7 t' 3 j' nb pv rs:=fun t' h j' hj'=>hg.keep hj' (fun h1 h2=>h nb (by omega) h2)
  obtain ⟨fr2,j3,t3,ev,si,Et2,rfl,hj3,k4,k5,k6,k7,k8,k9,b0,bd,b2,hsi,bp,hev,hg2,hT2,hE2,hEE⟩:=made_sw nm L hL (many:=many) (nb:=nb) (pb:=j1) (xb:=j1+1) (pv:=pv) (rs:=rs) (Et:=Et) (pn:=nmOf rs.length) (x:=pX rs.length) (y:=pY x1) hx2 hX (by omega)
   (by simp +decide only [gp,g4,if_false]) (by simp +decide only [gp,g5,if_false]) (by simp +decide only [gp,g6,if_false]) (by simp +decide only [gp,g7,if_false]) (by simp +decide only [gp,g8,if_false])
   (by simp +decide only [gp,if_true,if_false]) (by simp +decide only [gp,if_true,if_false]) (by simp +decide only [gp,if_true,if_false]) (by omega) (by omega) (by omega)
   (by simp +decide (disch:=omega) only [gp,up_ne,a0,if_false]) (DrawAt.self hp2) (by simp +decide (disch:=omega) only [gp,up_ne,a2,if_false])
   (by simp +decide (disch:=omega) only [gp,up_ne,if_true,if_false]; rfl) (by simp +decide (disch:=omega) only [gp,up_ne,if_true,if_false])
   (hg' _ (fun i h1 h2=>by simp +decide (disch:=omega) only [gp,up_ne,if_false]) _ (by omega)) (by omega) (hT' _ (fun i h1 h2=>by simp +decide (disch:=omega) only [gp,up_ne,if_false])) (fun i n h=>by have:=hE i n h; omega)
  simp +decide (disch:=omega) only
  generalize hX2:execA K2 (callN K2 49) c20_tl _=o
  obtain ⟨fr4,j4,t4',nb',pv',row,rfl,hj4,l4,l5,l6,l7,l8,d0,dd,d2,hg3,hrow,hT3,hE3⟩:=made_tail nm L hL (Et:=Et2) (yb:=x1) (si:=si) hm hx1 hsi hX2 (by omega) hk k4 k5 k6 k7 k8 k9 (by omega) (by omega) b0 bd b2 bp hev hg2 (by omega) (hr.mono hEE) hT2 hE2
  exact made_fin nm L hm hk hr hj4 l4 l5 l6 l7 l8 d0 dd d2 hg3 hrow hT3 hE3 hEE
end Go.Abs.Sym
end
section
namespace Go.Abs.T
open AV
set_option maxRecDepth 100000
end Go.Abs.T
end
section
namespace Go.Abs.Sym
open Go.Abs.T
open Go.Proofs
def FrM (fr:Tr AV) (many:Nat):Prop:=fr.get t4=some (.ptr (up .e 0) 0)∧fr.get t5=some (.ptr (up .e 1) 0)∧fr.get t6=some (.ptr (up .e 2) 0)∧fr.get t7=some (.int .i64 (.ofNat many))
def PadsM (nm:List Nat) (L:Sl Int) (many:Nat) (pv:AV) (rs:List (List AV)) (nb j0:Nat) (Et:Nat→List Ed→Prop) (gv:AV) (t:Tr AB):Prop :=
 t.get (up .e 0)=some (.cells [e0,.nils,.nils] false)∧DrawAt t (up .e 1) L∧t.get (up .e 2)=some (.cells [.str nm,pv,gv] false) ∧
  Grow 7 t 3 j0 nb pv rs∧rs.length=many∧PadRs Et rs∧Typed edC Et t∧(∀ i n,Et i n→3≤i∧i<j0∧i≠nb)
theorem PadsM.keep {nm:List Nat} {L:Sl Int} {many:Nat} {pv:AV} {rs:List (List AV)} {nb j0:Nat} {Et:Nat→List Ed→Prop} {gv gv':AV} {t t':Tr AB} (h:PadsM nm L many pv rs nb j0 Et gv t)
  (h1:DrawAt t' (up .e 1) L) (h2:t'.get (up .e 2)=some (.cells [.str nm,pv,gv'] false)) (h3:∀ i,i<j0→i≠1→i≠2→t'.get (up .e i)=t.get (up .e i)) (hj:3≤j0):PadsM nm L many pv rs nb j0 Et gv' t':=by
 obtain ⟨a0,ad,a2,hg,hn,hr,hT,hE⟩:=h
 refine ⟨(h3 0 (by omega) (by omega) (by omega)).trans a0,h1,h2,hg.keep (Nat.le_refl _) (fun k1 k2=>h3 nb k2 (by omega) (by omega)),hn,hr,fun i n hi => ?_,hE⟩
 obtain ⟨sp,k2⟩:=hT i n hi
 have:=hE i n hi
 exact ⟨sp,(h3 i (by omega) (by omega) (by omega)).trans k2⟩
def GV (t:Tr AB) (gv:AV) (gs:List GateD):Prop :=
 (gv=.nils∧gs=[])∨∃ (gb:Nat) (c:Option Nat) (rs:List (List AV)) (sp:Bool) (Lt:Nat→List Lg→Prop),gv=.slc (up .e gb) 0 gs.length 2 c∧gs≠[]∧t.get (up .e gb)=some (.cells rs.flatten sp)∧GateRs Lt rs gs∧Typed lgC Lt t∧3≤gb∧∀ i n,Lt i n→3≤i
def lg2 (a b:Nat) (x y:Nat):List Lg:=[⟨nmOf a,.ofNat x⟩,⟨nmOf b,.ofNat y⟩]
def gs1 (x:Nat):List GateD:=[⟨0,⟨1,lg2 0 1 1 x⟩⟩]
def gs2 (x:Nat):List GateD:=[⟨1,⟨1,lg2 0 1 x x⟩⟩,⟨1,⟨1,lg2 2 3 x x⟩⟩]
def gs3 (x k:Nat):List GateD:=[⟨1,⟨1,lg2 0 1 x x⟩⟩,⟨1,⟨1,lg2 2 3 x x⟩⟩,⟨.ofNat k,⟨1,lg2 5 4 x x⟩⟩]
def GOK (many:Nat) (gs:List GateD):Prop :=
 gs=[]∨(many<4∧∃ x,x<2∧gs=gs1 x)∨(4≤many∧∃ x,x<2∧gs=gs2 x)∨(many=6∧∃ x k,x<2∧k<3∧gs=gs3 x k)
theorem b_lt (a b:Nat):ltI (.ofNat a) (.ofNat b)=decide (a<b):=ltI_dec a b
theorem b_le (a b:Nat):leI (.ofNat a) (.ofNat b)=decide (a≤b):=by
 show Nat.ble a b=_
 exact nble a b
theorem b_eq (a b:Nat):eqI (.ofNat a) (.ofNat b)=decide (a=b):=by
 show Nat.beq a b=_
 exact nbeq a b
theorem g1_skip {many:Nat} (hm:4≤many) {fr:Tr AV} {h:H} (hf:FrM fr many):∃ fr',execA K2 (callN K2 49) c20_g1 ⟨fr,[],h,.no,none,t20⟩=.nrm ⟨fr',[],h,.no,none,t20⟩∧FrM fr' many:=by
 obtain ⟨g4,g5,g6,g7⟩:=hf
 have hl:ltI (.ofNat many) (.ofNat 4)=false:=by rw [b_lt]; exact decide_eq_false (by omega)
 simp +decide only [c20_g1,execA,opsA,wantedA,evalAll,evalA,oneA,st_mov,st_bin,st_pick,binAV,St.put,gp,if_true,if_false,cond_true,cond_false,nbeq,decide_true,eqK,kindNo,beq_t,g7,hl]
 refine ⟨_,rfl,?_,?_,?_,?_⟩<;>simp +decide only [gp,g4,g5,g6,g7,if_false]
theorem g2_skip {many:Nat} (hm:many<4) {fr:Tr AV} {h:H} (hf:FrM fr many):∃ fr',execA K2 (callN K2 49) c20_g2 ⟨fr,[],h,.no,none,t20⟩=.nrm ⟨fr',[],h,.no,none,t20⟩∧FrM fr' many:=by
 obtain ⟨g4,g5,g6,g7⟩:=hf
 have hl:leI (.ofNat 4) (.ofNat many)=false:=by rw [b_le]; exact decide_eq_false (by omega)
 simp +decide only [c20_g2,execA,opsA,wantedA,evalAll,evalA,oneA,st_mov,st_bin,st_pick,binAV,St.put,gp,if_true,if_false,cond_true,cond_false,nbeq,decide_true,eqK,kindNo,beq_t,g7,hl]
 refine ⟨_,rfl,?_,?_,?_,?_⟩<;>simp +decide only [gp,g4,g5,g6,g7,if_false]
theorem g3_skip {many:Nat} (hm:many≠6) {fr:Tr AV} {h:H} (hf:FrM fr many):∃ fr',execA K2 (callN K2 49) c20_g3 ⟨fr,[],h,.no,none,t20⟩=.nrm ⟨fr',[],h,.no,none,t20⟩∧FrM fr' many:=by
 obtain ⟨g4,g5,g6,g7⟩:=hf
 have hl:eqI (.ofNat many) (.ofNat 6)=false:=by rw [b_eq]; exact decide_eq_false hm
 simp +decide only [c20_g3,execA,opsA,wantedA,evalAll,evalA,oneA,st_mov,st_bin,st_pick,binAV,eqAV,St.put,gp,if_true,if_false,cond_true,cond_false,nbeq,decide_true,eqK,kindNo,Option.map_some,beq_t,g7,hl]
 refine ⟨_,rfl,?_,?_,?_,?_⟩<;>simp +decide only [gp,g4,g5,g6,g7,if_false]
set_option maxHeartbeats 1000000 in
theorem g1_run {nm:List Nat} {L:Sl Int} (hL:L.l.length<9223372036854775808) {many:Nat} (hm:many<4) {pv:AV} {rs:List (List AV)} {nb j0:Nat} {Et:Nat→List Ed→Prop} (hj:3≤j0) {fr:Tr AV} {t:Tr AB} (hf:FrM fr many) (hp:PadsM nm L many pv rs nb j0 Et .nils t) :
  ∃ fr' j' t' gv gs,execA K2 (callN K2 49) c20_g1 ⟨fr,[],⟨up .e j0,t,.lf⟩,.no,none,t20⟩=.nrm ⟨fr',[],⟨up .e j',t',.lf⟩,.no,none,t20⟩∧j0≤j'∧FrM fr' many∧PadsM nm L many pv rs nb j0 Et gv t'∧GV t' gv gs∧GOK many gs:=by
 obtain ⟨g4,g5,g6,g7⟩:=hf
 have hl:ltI (.ofNat many) (.ofNat 4)=true:=by rw [b_lt]; exact decide_eq_true hm
 have a2:=hp.2.2.1
 have hpv:pv.one=true:=hp.2.2.2.1.one
 simp +decide (disch:=omega) only [c20_g1,execA,opsA,wantedA,evalAll,evalA,oneA,st_mov,st_bin,st_call,st_build,st_buildSl,H.newB,binAV,St.put,gp,if_true,if_false,cond_true,nbeq,decide_true,eqK,kindNo,beq_self_eq_true,beq_t,g5,g7,hl]
 generalize hR:callN K2 49 (g t22) _ _=R
 obtain ⟨x1,p1,j1,rfl,hx1,hj1,hp1⟩:=next2 (n:=3) (by decide) (by decide) hL hR hp.2.1
 by_cases hx:0<x1
 ·have hb:ltI (.ofNat 0) (.ofNat x1)=true:=by rw [b_lt]; exact decide_eq_true hx
  have n0:=names2 (k:=0) (by decide)
  have n1:=names2 (k:=1) (by decide)
  simp +decide (disch:=omega) only [st_mov,st_bin,st_call,st_pick,setAt,fillA,cl_int,cl_str,binAV,gp,if_true,if_false,cond_true,Nat.zero_add,Bool.and_self,List.length,nbeq,nble,decide_true,Nat.reduceAdd,eqK,kindNo,Option.map_some,g5,hb,n0,n1]
  generalize hR2:callN K2 49 (g t22) _ _=R2
  obtain ⟨x2,p2,j2,rfl,hx2,hj2,hp2⟩:=next2 (n:=2) (by decide) (by decide) hL hR2 (DrawAt.self hp1)
  simp +decide (disch:=omega) only [st_store,st_fieldAddr,storeA,setAt,fillA,fillS,ones,cl_agg,cl_int,cl_str,on_slc,cl_slc,gp,if_true,if_false,cond_true,Nat.zero_add,Nat.zero_mul,Nat.one_mul,up_succ,up_ne,Bool.and_self,List.length,nbeq,nble,decide_true,Nat.reduceAdd,Option.map_some,g6,a2]
  refine ⟨_,j2+1+1,_,_,gs1 x2,rfl,by omega,⟨?_,?_,?_,?_⟩,hp.keep (((DrawAt.self hp2).put (by omega) _).put (by omega) _ |>.put (by omega) _) (by rw [gp,if_pos rfl]; rfl) (fun i k1 k2 k3 => ?_) hj,
   .inr ⟨j2+1,some 1,[[.int .i64 0,.slc (up .e j2) 0 2 2 (some 2)]],false,fun i n=>i=j2∧n=lg2 0 1 1 x2,rfl,List.cons_ne_nil _ _,?_,⟨⟨_,rfl,.inr ⟨j2,_,rfl,rfl,rfl⟩,List.cons_ne_nil _ _,rfl⟩,trivial⟩,fun i n hi => ?_,by omega,fun i n hi=>by omega⟩,.inr (.inl ⟨hm,x2,hx2,rfl⟩)⟩
  any_goals simp +decide (disch:=omega) only [gp,up_ne,g4,g5,g6,g7,if_true,if_false]
  ·rfl
  ·obtain ⟨rfl,rfl⟩:=hi
   refine ⟨false,?_⟩
   simp +decide (disch:=omega) only [if_true]
   rfl
 ·have hb:ltI (.ofNat 0) (.ofNat x1)=false:=by rw [b_lt]; exact decide_eq_false hx
  simp +decide (disch:=omega) only [st_bin,st_pick,binAV,gp,if_true,if_false,cond_true,nbeq,decide_true,eqK,kindNo,hb]
  refine ⟨_,j1,_,.nils,[],rfl,by omega,⟨?_,?_,?_,?_⟩,hp.keep (DrawAt.self hp1) ?_ (fun i k1 k2 k3 => ?_) hj,.inl ⟨rfl,rfl⟩,.inl rfl⟩
  all_goals simp +decide (disch:=omega) only [gp,up_ne,g4,g5,g6,g7,a2,if_false]
def GX (j0 j:Nat) (t:Tr AB) (gv:AV) (x:Nat):Prop:=∃ (l1 l2 gb:Nat),gv=.slc (up .e gb) 0 2 2 (some 2)∧j0≤l1∧l1<l2∧l2<gb∧gb<j ∧
 t.get (up .e gb)=some (.cells [.int .i64 1,.slc (up .e l1) 0 2 2 (some 2),.int .i64 1,.slc (up .e l2) 0 2 2 (some 2)] false) ∧
 t.get (up .e l1)=some (.cells [.str (nmOf 0),.int .i64 (.ofNat x),.str (nmOf 1),.int .i64 (.ofNat x)] false) ∧
 t.get (up .e l2)=some (.cells [.str (nmOf 2),.int .i64 (.ofNat x),.str (nmOf 3),.int .i64 (.ofNat x)] false)
theorem GX.gv {j0 j:Nat} {t:Tr AB} {gv:AV} {x:Nat} (hj:3≤j0) (h:GX j0 j t gv x):GV t gv (gs2 x):=by
 obtain ⟨l1,l2,gb,rfl,h1,h2,h3,h4,k1,k2,k3⟩:=h
 refine .inr ⟨gb,some 2,[[.int .i64 1,.slc (up .e l1) 0 2 2 (some 2)],[.int .i64 1,.slc (up .e l2) 0 2 2 (some 2)]],false,fun i n=>i=l1∧n=lg2 0 1 x x∨i=l2∧n=lg2 2 3 x x,rfl,List.cons_ne_nil _ _,k1,⟨⟨_,rfl,.inr ⟨l1,_,rfl,.inl ⟨rfl,rfl⟩⟩,List.cons_ne_nil _ _,rfl⟩,⟨_,rfl,.inr ⟨l2,_,rfl,.inr ⟨rfl,rfl⟩⟩,List.cons_ne_nil _ _,rfl⟩,trivial⟩,fun i n hi => ?_,by omega,fun i n hi=>by omega⟩
 rcases hi with ⟨rfl,rfl⟩ | ⟨rfl,rfl⟩
 ·exact ⟨false,k2⟩
 ·exact ⟨false,k3⟩
set_option maxHeartbeats 1000000 in
theorem g2_run {nm:List Nat} {L:Sl Int} (hL:L.l.length<9223372036854775808) {many:Nat} (hm:4≤many) {pv:AV} {rs:List (List AV)} {nb j0:Nat} {Et:Nat→List Ed→Prop} (hj:3≤j0) {fr:Tr AV} {t:Tr AB} (hf:FrM fr many) (hp:PadsM nm L many pv rs nb j0 Et .nils t) :
  ∃ fr' j' t' gv,execA K2 (callN K2 49) c20_g2 ⟨fr,[],⟨up .e j0,t,.lf⟩,.no,none,t20⟩=.nrm ⟨fr',[],⟨up .e j',t',.lf⟩,.no,none,t20⟩∧j0≤j'∧FrM fr' many∧PadsM nm L many pv rs nb j0 Et gv t'∧(gv=.nils∨∃ x,x<2∧GX j0 j' t' gv x):=by
 obtain ⟨g4,g5,g6,g7⟩:=hf
 have hl:leI (.ofNat 4) (.ofNat many)=true:=by rw [b_le]; exact decide_eq_true hm
 have a2:=hp.2.2.1
 have hpv:pv.one=true:=hp.2.2.2.1.one
 simp +decide (disch:=omega) only [c20_g2,execA,opsA,wantedA,evalAll,evalA,oneA,st_mov,st_bin,st_call,binAV,St.put,gp,if_true,if_false,cond_true,nbeq,decide_true,eqK,kindNo,beq_self_eq_true,beq_t,g5,g7,hl]
 generalize hR:callN K2 49 (g t22) _ _=R
 obtain ⟨x1,p1,j1,rfl,hx1,hj1,hp1⟩:=next2 (n:=3) (by decide) (by decide) hL hR hp.2.1
 by_cases hx:0<x1
 ·have hb:ltI (.ofNat 0) (.ofNat x1)=true:=by rw [b_lt]; exact decide_eq_true hx
  have n0:=names2 (k:=0) (by decide)
  have n1:=names2 (k:=1) (by decide)
  have n2:=names2 (k:=2) (by decide)
  have n3:=names2 (k:=3) (by decide)
  obtain ⟨x2,p2,j2,hN,hx2,hj2,hp2⟩:=next2 (n:=2) (by decide) (by decide) hL (j:=j1) (q:=.e) rfl (DrawAt.self (t:=t) (d:=up .e 1) hp1)
  simp +decide (disch:=omega) only [execA,opsA,wantedA,evalAll,evalA,oneA,st_mov,st_store,st_bin,st_call,st_fieldAddr,st_build,st_pick,st_buildSl,H.newB,storeA,setAt,fillA,fillS,ones,cl_agg,cl_int,cl_str,on_slc,cl_slc,binAV,St.put,gp,if_true,if_false,cond_true,Nat.zero_add,Nat.zero_mul,Nat.one_mul,up_succ,up_ne,Bool.and_self,List.length,nbeq,nble,decide_true,Nat.reduceAdd,eqK,kindNo,Option.map_some,c20_g2t,hN,g5,g6,hb,n0,n1,n2,n3,a2]
  refine ⟨_,j2+1+1+1,_,_,rfl,by omega,⟨?_,?_,?_,?_⟩,hp.keep (((DrawAt.self hp2).put (by omega) _).put (by omega) _ |>.put (by omega) _ |>.put (by omega) _) (by rw [gp,if_pos rfl]) (fun i k1 k2 k3 => ?_) hj,
   .inr ⟨x2,hx2,j2,j2+1,j2+1+1,rfl,by omega,by omega,by omega,by omega,?_,?_,?_⟩⟩
  any_goals simp +decide (disch:=omega) only [gp,up_ne,g4,g5,g6,g7,if_true,if_false]
  all_goals rfl
 ·have hb:ltI (.ofNat 0) (.ofNat x1)=false:=by rw [b_lt]; exact decide_eq_false hx
  simp +decide (disch:=omega) only [st_bin,st_pick,binAV,gp,if_true,if_false,cond_true,nbeq,decide_true,eqK,kindNo,hb]
  refine ⟨_,j1,_,.nils,rfl,by omega,⟨?_,?_,?_,?_⟩,hp.keep (DrawAt.self hp1) ?_ (fun i k1 k2 k3 => ?_) hj,.inl rfl⟩
  all_goals simp +decide (disch:=omega) only [gp,up_ne,g4,g5,g6,g7,a2,if_false]
theorem g3_nil {nm:List Nat} {L:Sl Int} {pv:AV} {rs:List (List AV)} {nb j0:Nat} {Et:Nat→List Ed→Prop} {fr:Tr AV} {j:Nat} {t:Tr AB} (hf:FrM fr 6) (hp:PadsM nm L 6 pv rs nb j0 Et .nils t) :
  ∃ fr',execA K2 (callN K2 49) c20_g3 ⟨fr,[],⟨up .e j,t,.lf⟩,.no,none,t20⟩=.nrm ⟨fr',[],⟨up .e j,t,.lf⟩,.no,none,t20⟩∧FrM fr' 6:=by
 obtain ⟨g4,g5,g6,g7⟩:=hf
 have a2:=hp.2.2.1
 have hl:eqI (.ofNat 6) (.ofNat 6)=true:=rfl
 have h0:ltI (.ofNat 0) (.ofNat 0)=false:=rfl
 simp +decide (disch:=omega) only [c20_g3,execA,opsA,wantedA,evalAll,evalA,oneA,st_mov,st_load,st_bin,st_fieldAddr,st_pick,st_len,ld_ptr,H.cellsAt,partA,tk_s,tk_0,tk_c,ln_nils,binAV,eqAV,St.put,gp,if_true,if_false,cond_true,cond_false,Nat.zero_add,nbeq,decide_true,eqK,kindNo,Option.map_some,beq_self_eq_true,beq_t,g6,g7,hl,h0,a2]
 refine ⟨_,rfl,?_,?_,?_,?_⟩<;>simp +decide only [gp,g4,g5,g6,g7,if_false]
theorem cont_c (a b:Nat) (l:List Nat):(a::l).contains b=(decide (b=a)||l.contains b):=by
 simp only [List.contains_cons]
 by_cases h:b=a<;>simp [h]
theorem cont_n (b:Nat):([]:List Nat).contains b=false:=rfl
theorem tkP_c (m:List Nat) (p:Pend) (ps:List Pend):takesP m (p::ps)=bif m.contains p.at_ then p::takesP m ps else takesP m ps:=by
 simp only [takesP,List.filter]
 cases m.contains p.at_<;>rfl
theorem lvP_c (m:List Nat) (p:Pend) (ps:List Pend):leavesP m (p::ps)=bif m.contains p.at_ then leavesP m ps else p::leavesP m ps:=by
 simp only [leavesP,List.filter]
 cases m.contains p.at_<;>rfl
theorem withP_c (h:H) (p:Pend) (ps:List Pend):h.withP (p::ps)=({ h with t:=h.t.put p.id p.b }:H).withP ps:=rfl
theorem app_full {m gb x n sz by_:Nat} {t:Tr AB} {old row:List AV} {sp sp':Bool} {A:Option (AV×H)} (hA:appendA ⟨up .e m,t,.lf⟩ sz by_ (.slc (up .e gb) 0 n sz (some n)) (.slc (up .e x) 0 1 sz (some 1))=A)
  (hg:t.get (up .e gb)=some (.cells old sp)) (ho:old.length=n*sz) (hx:t.get (up .e x)=some (.cells row sp')) (hrow:row.length=sz) (hb:by_≤1000) (hn:n<1000000) :
  A=some (.slc (up .e m) 0 (n+1) sz none,⟨up .e (m+1),t.put (up .e m) (.cells (old++row) true),.lf⟩):=by
 have htk:takeD row 0 sz=some row:=takeD_all hrow
 have hto:takeD old 0 (n*sz)=some old:=takeD_all ho
 have hbig:(Nat.ble bigBytes ((n+1)*by_)||Nat.ble bigBytes (n+1))=false:=by
  have h1:(n+1)*by_≤1000001*1000:=Nat.mul_le_mul (by omega) hb
  have hB:1000001000<bigBytes:=by decide
  have h2:Nat.ble bigBytes ((n+1)*by_)=false:=by
   rw [nble]; exact decide_eq_false (by omega)
  have h3:Nat.ble bigBytes (n+1)=false:=by
   rw [nble]; exact decide_eq_false (by omega)
  rw [h2,h3]; rfl
 have hf1:firstA ⟨up .e m,t,.lf⟩ sz 1 (.slc (up .e x) 0 1 sz (some 1))=some row:=by
  simp only [firstA,nbeq,nble,decide_true,Nat.le_refl,Bool.and_self,cond_true,H.cellsAt,hx,Nat.one_mul,htk]
 have hzz:Nat.beq sz sz=true:=by rw [nbeq]; exact decide_eq_true rfl
 have h10:Nat.beq 1 0=false:=rfl
 have hc:Nat.ble (n+1) n=false:=by rw [nble]; exact decide_eq_false (by omega)
 rw [← hA]
 simp only [appendA,lenA,hf1,hzz,h10,hbig,hc,cond_false,cond_true,H.cellsAt,hg,hto,H.newB,up_succ]
set_option maxHeartbeats 2000000 in
theorem g3_run {nm:List Nat} {L:Sl Int} (hL:L.l.length<9223372036854775808) {pv gv:AV} {rs:List (List AV)} {nb j0:Nat} {Et:Nat→List Ed→Prop} (hj:3≤j0) {fr:Tr AV} {j:Nat} {t:Tr AB} {x:Nat} (hx2:x<2) (hf:FrM fr 6) (hp:PadsM nm L 6 pv rs nb j0 Et gv t) (hx:GX j0 j t gv x) :
  ∃ fr' j' t' gv' gs,execA K2 (callN K2 49) c20_g3 ⟨fr,[],⟨up .e j,t,.lf⟩,.no,none,t20⟩=.nrm ⟨fr',[],⟨up .e j',t',.lf⟩,.no,none,t20⟩∧FrM fr' 6∧PadsM nm L 6 pv rs nb j0 Et gv' t'∧GV t' gv' gs∧GOK 6 gs:=by
 have hx':=hx
 obtain ⟨g4,g5,g6,g7⟩:=hf
 have a2:=hp.2.2.1
 have hpv:pv.one=true:=hp.2.2.2.1.one
 obtain ⟨l1,l2,gb,rfl,h1,h2,h3,h4,k1,k2,k3⟩:=hx
 have hl:eqI (.ofNat 6) (.ofNat 6)=true:=rfl
 have h0:ltI (.ofNat 0) (.ofNat 2)=true:=rfl
 simp +decide (disch:=omega) only [c20_g3,execA,opsA,wantedA,evalAll,evalA,oneA,st_mov,st_load,st_bin,st_call,st_fieldAddr,st_pick,st_len,ld_ptr,H.cellsAt,partA,tk_s,tk_0,tk_c,ln_slc,binAV,eqAV,St.put,gp,if_true,if_false,cond_true,Nat.zero_add,nbeq,decide_true,eqK,kindNo,Option.map_some,beq_self_eq_true,beq_t,g5,g6,g7,hl,h0,a2]
 generalize hR:callN K2 49 (g t22) _ _=R
 obtain ⟨x1,p1,j1,rfl,hx1,hj1,hp1⟩:=next2 (n:=2) (by decide) (by decide) hL hR hp.2.1
 have hGX:∀ t':Tr AB,(∀ i,j0≤i→i<j→t'.get (up .e i)=t.get (up .e i))→GX j0 j t' (.slc (up .e gb) 0 2 2 (some 2)) x:=fun t' h=>⟨l1,l2,gb,rfl,h1,h2,h3,h4,(h gb (by omega) h4).trans k1,(h l1 (by omega) (by omega)).trans k2,(h l2 (by omega) (by omega)).trans k3⟩
 have hx01:x1=0∨x1=1:=by omega
 rcases hx01 with rfl | rfl
 ·have hb:eqI (.ofNat 0) (.ofNat 1)=false:=rfl
  simp +decide (disch:=omega) only [st_bin,st_pick,binAV,eqAV,gp,if_true,if_false,cond_true,nbeq,decide_true,eqK,kindNo,Option.map_some,hb]
  refine ⟨_,j1,_,_,gs2 x,rfl,⟨?_,?_,?_,?_⟩,hp.keep (DrawAt.self hp1) ?_ (fun i k1 k2 k3 => ?_) hj,(hGX _ (fun i h1 h2 => ?_)).gv hj,.inr (.inr (.inl ⟨by decide,x,hx2,rfl⟩))⟩
  all_goals simp +decide (disch:=omega) only [gp,up_ne,g4,g5,g6,g7,a2,if_false]
 ·have hb:eqI (.ofNat 1) (.ofNat 1)=true:=rfl
  have n5:=names2 (k:=5) (by decide)
  have n4:=names2 (k:=4) (by decide)
  have hi0:∀ id c,indexAddrA (.slc 2) (.slc id 0 2 2 c) i0=some (.ptr id 0):=fun _ _=>rfl
  have hi1:∀ id c,indexAddrA (.slc 2) (.slc id 0 2 2 c) i1=some (.ptr id 2):=fun _ _=>rfl
  obtain ⟨x3,p3,j3,hN,hx3,hj3,hp3⟩:=next2 (n:=3) (by decide) (by decide) hL (j:=j1+30) (q:=.e) rfl (DrawAt.self (t:=t) (d:=up .e 1) hp1)
  simp +decide (maxSteps:=3000000) (disch:=omega) only [execA,wantedA,evalAll,evalA,oneA,dregA,dopsA,dstep,isMaker,withP_nil,takesP_nil,leavesP_nil,rd_mov,rd_build,rd_load,rd_fieldp,rd_indexAddr,st_mov,st_load,st_bin,st_call,st_fieldAddr,st_indexAddr,st_build,st_pick,st_buildSl,st_append,mk_buildSl,ld_ptr,H.cellsAt,H.newB,partA,tk_s,tk_0,tk_c,setAt,fillA,fillS,cl_agg,cl_int,cl_str,cl_slc,binAV,eqAV,St.put,gp,if_true,if_false,cond_true,cond_false,Nat.zero_add,Nat.zero_mul,Nat.one_mul,skip_up0,up_up,up_succ,up_ne,beq_rfl,Bool.and_self,List.length,seesHeap,quiet,recheck,nbeq,nble,decide_true,decide_false,Nat.reduceAdd,Bool.true_and,Bool.and_true,Bool.false_and,Bool.or_false,Bool.or_true,List.all,eqK,kindNo,Option.map_some,c20_g3t,cont_c,cont_n,tkP_c,lvP_c,withP_c,Nat.add_assoc,hN,hi0,hi1,n4,n5,g5,g6,hb,a2,k1,k2]
  generalize hA:appendA _ 2 32 _ _=A
  have hA':=app_full hA (old:=[.int .i64 1,.slc (up .e l1) 0 2 2 (some 2),.int .i64 1,.slc (up .e l2) 0 2 2 (some 2)]) (sp:=false) (row:=[.int .i64 (.ofNat x3),.slc (up .e (j1+24)) 0 2 2 (some 2)]) (sp':=false)
   (by simp +decide (disch:=omega) only [gp,up_ne,k1,if_false]) rfl (by simp +decide (disch:=omega) only [gp,up_ne,if_true,if_false]) rfl (by decide) (by decide)
  subst hA'
  simp +decide (maxSteps:=3000000) (disch:=omega) only [withP_nil,takesP_nil,leavesP_nil,rd_load,rd_fieldp,st_store,ld_ptr,H.cellsAt,partA,tk_s,tk_0,tk_c,storeA,setAt,ones,on_slc,cl_slc,gp,List.nil_append,List.cons_append,if_true,if_false,cond_true,cond_false,Nat.zero_add,up_ne,beq_rfl,Bool.and_self,List.length,recheck,nbeq,nble,decide_true,decide_false,Nat.reduceAdd,Nat.reduceLeDiff,Bool.and_false,List.all,Option.map_some,g6,a2,k1,k2]
  refine ⟨_,j3+1,_,_,gs3 x x3,rfl,⟨?_,?_,?_,?_⟩,hp.keep ⟨p3,hp3,?_⟩ (by rw [gp,if_pos rfl]; rfl) (fun i k1 k2 k3 => ?_) hj,
   .inr ⟨j3,none,[[.int .i64 1,.slc (up .e l1) 0 2 2 (some 2)],[.int .i64 1,.slc (up .e l2) 0 2 2 (some 2)],[.int .i64 (.ofNat x3),.slc (up .e (j1+24)) 0 2 2 (some 2)]],true,fun i n=>i=l1∧n=lg2 0 1 x x∨i=l2∧n=lg2 2 3 x x∨i=j1+24∧n=lg2 5 4 x x,rfl,List.cons_ne_nil _ _,?_,
    ⟨⟨_,rfl,.inr ⟨l1,_,rfl,.inl ⟨rfl,rfl⟩⟩,List.cons_ne_nil _ _,rfl⟩,⟨_,rfl,.inr ⟨l2,_,rfl,.inr (.inl ⟨rfl,rfl⟩)⟩,List.cons_ne_nil _ _,rfl⟩,⟨_,rfl,.inr ⟨j1+24,_,rfl,.inr (.inr ⟨rfl,rfl⟩)⟩,List.cons_ne_nil _ _,rfl⟩,trivial⟩,fun i n hi => ?_,by omega,fun i n hi=>by omega⟩,.inr (.inr (.inr ⟨rfl,x,x3,hx2,hx3,rfl⟩))⟩
  any_goals simp +decide (disch:=omega) only [gp,up_ne,g4,g5,g6,g7,if_true,if_false]
  ·rfl
  ·rcases hi with ⟨rfl,rfl⟩ | ⟨rfl,rfl⟩ | ⟨rfl,rfl⟩
   ·refine ⟨false,?_⟩
    simp +decide (disch:=omega) only [up_ne,if_false]
    exact k2
   ·refine ⟨false,?_⟩
    simp +decide (disch:=omega) only [up_ne,if_false]
    exact k3
   ·refine ⟨false,?_⟩
    simp +decide (disch:=omega) only [if_true]
    rfl
end Go.Abs.Sym
end
section
namespace Go.Abs.Sym
open Go.Abs.T
open Go.Proofs
theorem kf2:K2.fuel=100000:=rfl
theorem deep_slc {d:Nat} {h:H} {id:Pth} {off len sz:Nat} {c:Option Nat} {cs l:List AV} (h1:h.cellsAt id=some cs) (h2:takeD cs off (len*sz)=some l):deep (d+1) h (.slc id off len sz c)=.rslc len (l.map (deep d h)):=by
 simp only [Abs.deep,h1,h2]
theorem deep_agg (d:Nat) (h:H) (cs:List AV):deep (d+1) h (.agg cs)=.agg (cs.map (deep d h)):=rfl
theorem cellsAt_t {nx:Pth} {t:Tr AB} {id:Pth} {cs:List AV} {sp:Bool} (h:t.get id=some (.cells cs sp)):H.cellsAt ⟨nx,t,.lf⟩ id=some cs:=by
 simp only [H.cellsAt,h]
theorem pads_deep {t:Tr AB} {nx:Pth} {lo hi nb:Nat} {pv:AV} {rs:List (List AV)} {Et:Nat→List Ed→Prop} (hgr:Grow 7 t lo hi nb pv rs) (h0:0<rs.length) (hr:PadRs Et rs) (hT:Typed edC Et t) :
  ∃ cs:List (Nat×Nat×Nat),cs.length=rs.length∧(∀ c∈cs,CodeOK c)∧deep 7 ⟨nx,t,.lf⟩ pv=slV padC ⟨1,padsOf 0 cs⟩:=by
 obtain ⟨cs,h1,h2,h3⟩:=rows_deep (nx:=nx) hT 5 rs 0 (fun k r h=>by rw [Nat.zero_add]; exact hr k r h)
 rcases hgr with ⟨rfl,rfl,_⟩ | ⟨h4,rfl,h5,_⟩
 ·exact absurd h0 (by simp)
 ·have htk:takeD rs.flatten 0 (rs.length*7)=some rs.flatten:=takeD_all (rows_len (Rw:=fun r=>r.length=7) (fun _ h=>h) rs (fun r h=>hr.mem h))
  refine ⟨cs,h1,h2,?_⟩
  rw [deep_slc (cellsAt_t h5) htk,h3,slV_rslc,len_padsOf,h1]
theorem gates_deep {t:Tr AB} {nx:Pth} {gv:AV} {gs:List GateD} (hg:GV t gv gs):deep 7 ⟨nx,t,.lf⟩ gv=slV gateC ⟨0,gs⟩:=by
 rcases hg with ⟨rfl,rfl⟩ | ⟨gb,c,rs',sp,Lt,rfl,hne,k3,k4,k5,_⟩
 ·rfl
 ·have hl:=k4.len
  have htk:takeD rs'.flatten 0 (gs.length*2)=some rs'.flatten:=takeD_all (by rw [rows_len (Rw:=fun r=>r.length=2) (fun _ h=>h) rs' hl.2,hl.1])
  rw [deep_slc (cellsAt_t k3) htk,k4.deep k5 5,← slV_rslc]
  exact (slV_ne gateC (s:=⟨0,gs⟩) hne 1).symm
theorem GV.putL {t:Tr AB} {gv:AV} {gs:List GateD} (h:GV t gv gs) {i:Nat} (hi:i<3) (x:AB):GV (t.put (up .e i) x) gv gs:=by
 rcases h with h | ⟨gb,c,rs',sp,Lt,h1,hn,k3,k4,k5,k6,k7⟩
 ·exact .inl h
 ·refine .inr ⟨gb,c,rs',sp,Lt,h1,hn,?_,k4,k5.put (fun i n h=>by have:=k7 i n h; omega) x,k6,k7⟩
  rw [gp,if_neg (fun e=>by rw [up_inj] at e; omega)]
  exact k3
theorem GV.put0 {t:Tr AB} {gv:AV} {gs:List GateD} (h:GV t gv gs) (x:AB):GV (t.put (up .e 0) x) gv gs:=h.putL (by decide) x
def tyOf (nm:List Nat) (cs:List (Nat×Nat×Nat)) (gs:List GateD):TypD:=⟨nm,⟨1,padsOf 0 cs⟩,⟨0,gs⟩⟩
theorem made_rest {nm:List Nat} {L:Sl Int} (hL:L.l.length<9223372036854775808) {many:Nat} (hm:many≤6) (h0m:0<many) {s:St} (h:MadeI nm L many 0 s):∃ v s',execA K2 (callN K2 49) c20_rest s=.ret s'∧s'.df=[]∧resultA s'.h s'.fr [.cell t4 (some 3)]=some v∧∃ cs gs,cs.length=many∧(∀ c∈cs,CodeOK c)∧GOK many gs∧deep 8 s'.h v=.agg (tyC (tyOf nm cs gs)):=by
 obtain ⟨fr,j,t,nb,pv,rs,Et,rfl,hj,hk,g4,g5,g6,g7,g8,a0,ad,a2,hg,hr,hT,hE⟩:=h.ex
 have hp:PadsM nm L many pv rs nb j Et .nils t:=⟨a0,ad,a2,hg,by omega,hr,hT,hE⟩
 have hf:FrM fr many:=⟨g4,g5,g6,g7⟩
 have hgo : ∃ fr' j' t' gv gs,execA K2 (callN K2 49) c20_rest ⟨fr,[],⟨up .e j,t,.lf⟩,.no,none,t20⟩=execA K2 (callN K2 49) (.seq (.reg [⟨s178,.load (some 3),[v6],none⟩,⟨none,.store 3,[v4,v178],none⟩]) .ret) ⟨fr',[],⟨up .e j',t',.lf⟩,.no,none,t20⟩∧FrM fr' many∧PadsM nm L many pv rs nb j Et gv t'∧GV t' gv gs∧GOK many gs:=by
  by_cases h4:many<4
  ·obtain ⟨fr1,j1,t1,gv,gs,e1,_,f1,p1,q1⟩:=g1_run hL h4 hj hf hp
   obtain ⟨fr2,e2,f2⟩:=g2_skip h4 (h:=⟨up .e j1,t1,.lf⟩) f1
   obtain ⟨fr3,e3,f3⟩:=g3_skip (by omega) (h:=⟨up .e j1,t1,.lf⟩) f2
   refine ⟨fr3,j1,t1,gv,gs,?_,f3,p1,q1⟩
   rw [c20_rest]
   simp only [execA,e1,e2,e3]
  ·obtain ⟨fr1,e1,f1⟩:=g1_skip (by omega) (h:=⟨up .e j,t,.lf⟩) hf
   obtain ⟨fr2,j2,t2,gv,e2,hj2,f2,p2,q2⟩:=g2_run hL (by omega) hj f1 hp
   by_cases h6:many=6
   ·subst h6
    rcases q2 with rfl | ⟨x,hx,q2⟩
    ·obtain ⟨fr3,e3,f3⟩:=g3_nil (j:=j2) f2 p2
     refine ⟨fr3,j2,t2,.nils,[],?_,f3,p2,.inl ⟨rfl,rfl⟩,.inl rfl⟩
     rw [c20_rest]
     simp only [execA,e1,e2,e3]
    ·obtain ⟨fr3,j3,t3,gv',gs,e3,f3,p3,q3⟩:=g3_run hL hj hx f2 p2 q2
     refine ⟨fr3,j3,t3,gv',gs,?_,f3,p3,q3⟩
     rw [c20_rest]
     simp only [execA,e1,e2,e3]
   ·obtain ⟨fr3,e3,f3⟩:=g3_skip h6 (h:=⟨up .e j2,t2,.lf⟩) f2
    have hx:∃ gs,GV t2 gv gs∧GOK many gs:=by
     rcases q2 with rfl | ⟨x,hx,q2⟩
     ·exact ⟨[],.inl ⟨rfl,rfl⟩,.inl rfl⟩
     ·exact ⟨_,GX.gv hj q2,.inr (.inr (.inl ⟨by omega,x,hx,rfl⟩))⟩
    obtain ⟨gs,v1,v2⟩:=hx
    refine ⟨fr3,j2,t2,gv,gs,?_,f3,p2,v1,v2⟩
    rw [c20_rest]
    simp only [execA,e1,e2,e3]
 obtain ⟨fr',j',t',gv,gs,he,⟨f4,f5,f6,f7⟩,hp',hgv,hgk⟩:=hgo
 obtain ⟨b0,bd,b2,bg,bn,br,bT,bE⟩:=hp'
 have hpv:pv.one=true:=bg.one
 have hgo:gv.one=true:=by
  rcases hgv with ⟨rfl,_⟩ | ⟨_,_,_,_,_,rfl,_⟩<;>rfl
 rw [he]
 simp +decide (disch:=omega) only [execA,opsA,wantedA,evalAll,evalA,oneA,st_load,st_store,ld_ptr,H.cellsAt,partA,tk_0,tk_c,storeA,setAt,ones,cl_agg,on_str,St.put,gp,if_true,if_false,cond_true,Nat.zero_add,Bool.and_self,List.length,nbeq,decide_true,Nat.reduceAdd,resultA,resultsA,Option.map_some,f4,f6,b0,b2,hpv,hgo]
 obtain ⟨cs,h1,h2,h3⟩:=pads_deep (nx:=up .e j') (t:=t'.put (up .e 0) (.cells [.str nm,pv,gv] false)) (bg.keep (Nat.le_refl _) (fun k1 k2=>by
  rw [gp,if_neg (fun e=>by rw [up_inj] at e; omega)])) (by omega) br (bT.put (fun i n h=>by have:=bE i n h; omega) _)
 have q3:=gates_deep (nx:=up .e j') (hgv.put0 (.cells [.str nm,pv,gv] false))
 refine ⟨.agg [.str nm,pv,gv],_,rfl,rfl,?_,cs,gs,by omega,h2,hgk,?_⟩
 ·simp +decide (disch:=omega) only [ld_ptr,H.cellsAt,partA,tk_0,tk_c,gp,if_true,if_false,Option.map_some,f4]
 ·rw [deep_agg]
  simp only [List.map_cons,List.map_nil,h3,q3]
  rfl
theorem made22 (L:Sl Int) (hL:L.l.length<9223372036854775808) (nm:List Nat):Ret (callN K2 50 (.fn t20 [] []) [slV inC L,.str nm] h0) (fun v h1=>∃ cs gs,2≤cs.length∧cs.length≤6∧(∀ c∈cs,CodeOK c)∧GOK cs.length gs∧deep 8 h1 v=.agg (tyC (tyOf nm cs gs))):=by
 have hs:∀ xs,K2.sums t20 xs h0=none:=fun _=>rfl
 have hF:K2.funcs.get t20=some c20:=rfl
 refine begin2 (hs _) hF fun fr t ga gb => ?_
 rw [c20]
 simp +decide (disch:=omega) only [execA,opsA,wantedA,evalAll,evalA,oneA,st_mov,st_alloc,st_box,st_store,st_call,st_build,H.newB,storeA,setAt,fillA,ones,cl_agg,on_str,cl_str,on_nils,cl_slV,St.put,gp,if_true,if_false,cond_true,Nat.zero_add,up_succ,Bool.and_self,List.length,nbeq,nble,decide_true,Nat.reduceAdd,Option.map_some,ga,gb]
 have hd0:DrawAt ((((t.put (up .e 0) (.cells [e0,.nils,.nils] false)).put (up .e 1) (.cells [slV inC L,i0] false)).put (up .e 2) (.cells [e0,.nils,.nils] false)).put (up .e 2) (.cells [.str nm,.nils,.nils] false)) (up .e 1) L:=by
  refine ⟨0,Nat.zero_le _,?_⟩
  simp +decide (disch:=omega) only [gp,if_true,if_false]
 generalize hR:callN K2 49 (g t22) _ _=R
 obtain ⟨x,p,j,rfl,hx,hj,hp⟩:=next2 (n:=5) (by decide) (by decide) hL hR hd0
 have hw:=wr_add 2 x (by omega)
 simp +decide (disch:=omega) only [st_mov,st_bin,binAV,gp,if_true,if_false,cond_true,nbeq,decide_true,eqK,kindNo,hw,kf2]
 generalize hit:iterA (execA K2 (callN K2 49) c20_l0) 100000 _=o
 have ho:MadeQ nm L (2+x) o:=by
  rw [← hit]
  refine iter_rule (MadeI nm L (2+x)) (MadeQ nm L (2+x)) (fun m s h=>made_round nm L hL (by omega) m s h) 100000 (2+x) _ ⟨_,j,_,0,.nils,[],fun _ _=>False,rfl,by omega,by simp,?_,?_,?_,?_,?_,?_,DrawAt.self hp,?_,.inl ⟨rfl,rfl,rfl⟩,PadRs.nil,fun _ _ h=>h.elim,fun _ _ h=>h.elim⟩ (by omega)
  all_goals simp +decide (disch:=omega) only [gp,if_true,if_false,List.length_nil]
 obtain ⟨s,rfl,hs⟩:=ho
 obtain ⟨v,s',e1,e2,e3,cs,gs,k1,k2,k3,k4⟩:=made_rest hL (by omega) (by omega) hs
 obtain ⟨fr',df,h,rc,rd,fn⟩:=s'
 simp only at e2 e3 k4
 subst e2
 simp +decide only [decide_true,cond_true,e1]
 exact ⟨v,h,leave_r e3,cs,gs,by omega,by omega,k2,by rw [k1]; exact k3,k4⟩
end Go.Abs.Sym
end
end
