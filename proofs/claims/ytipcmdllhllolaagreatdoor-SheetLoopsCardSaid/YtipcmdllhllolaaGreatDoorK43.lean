/- Types with tokens for what their pads have. -/
import Derived.Test.YtipcmdllhllolaaGreatDoorK22
import Derived.Test.YtipcmdllhllolaaGreatDoorK19
import Derived.Test.YtipcmdllhllolaaGreatDoorK17
import Derived.KernelRfl
noncomputable section
namespace Go.Abs.Sym
open Go.Abs.T
open Go.Proofs
def tokU (val:Nat→AV) (i:Nat):AV:=bif Nat.beq i topI then .sym topI else bif Nat.beq i intI then .sym intI else val i
def mkTok (val:Nat→AV) (hf:∀ i,frz (val i)=true) (ho:∀ i,(val i).one=true):Toks where
 val:=tokU val
 frz:=fun i=>by
  unfold tokU
  cases Nat.beq i topI<;>cases Nat.beq i intI<;>first | rfl | exact hf i
 one:=fun i=>by
  unfold tokU
  cases Nat.beq i topI<;>cases Nat.beq i intI<;>first | rfl | exact ho i
 top:=rfl
 int:=rfl
theorem tokU_at (val:Nat→AV) {i:Nat} (h:i<1000):tokU val i=val i:=by
 have h0:Nat.beq i topI=false:=by
  cases hb:Nat.beq i topI with
  | false=>rfl
  | true =>
   have:=Nat.eq_of_beq_eq_true hb
   have e:topI=999999999:=rfl
   omega
 have h1:Nat.beq i intI=false:=by
  cases hb:Nat.beq i intI with
  | false=>rfl
  | true =>
   have:=Nat.eq_of_beq_eq_true hb
   have e:intI=999999998:=rfl
   omega
 simp only [tokU,h0,h1,cond_false]
theorem substs_append (t:Toks):∀ (a b:List AV),substs t (a++b)=substs t a++substs t b
 | [],b=>rfl
 | v::a,b=>by simp only [List.cons_append,substs,substs_append t a b]
mutual
def noTok:AV→Bool
 | .sym _=>false
 | .rptr cs=>noToks cs
 | .rslc _ cs=>noToks cs
 | .rmap ks vs=>noToks ks&&noToks vs
 | .fn _ a b=>noToks a&&noToks b
 | .iface _ v=>noTok v
 | .agg cs=>noToks cs
 | .tup cs=>noToks cs
 | _=>true
def noToks:List AV→Bool
 | []=>true
 | v::vs=>noTok v&&noToks vs
end
mutual
theorem subst_frz0 (t:Toks):∀ a:AV,noTok a=true→a.subst t=a
 | .sym i,h=>by simp only [noTok,Bool.false_eq_true] at h
 | .rptr cs,h=>by simp only [noTok] at h; simp only [AV.subst,substs_frz0 t cs h]
 | .rslc n cs,h=>by simp only [noTok] at h; simp only [AV.subst,substs_frz0 t cs h]
 | .rmap ks vs,h=>by simp only [noTok,Bool.and_eq_true] at h; simp only [AV.subst,substs_frz0 t ks h.1,substs_frz0 t vs h.2]
 | .fn f a b,h=>by simp only [noTok,Bool.and_eq_true] at h; simp only [AV.subst,substs_frz0 t a h.1,substs_frz0 t b h.2]
 | .iface ty x,h=>by simp only [noTok] at h; simp only [AV.subst,subst_frz0 t x h]
 | .agg cs,h=>by simp only [noTok] at h; simp only [AV.subst,substs_frz0 t cs h]
 | .tup cs,h=>by simp only [noTok] at h; simp only [AV.subst,substs_frz0 t cs h]
 | .bool b,h=>rfl
 | .int k n,h=>rfl
 | .str s,h=>rfl
 | .nilp,h=>rfl
 | .ptr id off,h=>rfl
 | .nils,h=>rfl
 | .slc id off len sz cap,h=>rfl
 | .eslc,h=>rfl
 | .nilm,h=>rfl
 | .mapv id,h=>rfl
 | .nilf,h=>rfl
 | .yield id,h=>rfl
 | .nili,h=>rfl
theorem substs_frz0 (t:Toks):∀ vs:List AV,noToks vs=true→substs t vs=vs
 | [],_=>rfl
 | a::vs,h=>by
  simp only [noToks,Bool.and_eq_true] at h
  simp only [substs,subst_frz0 t a h.1,substs_frz0 t vs h.2]
end
def padF (c:Nat×Nat×Nat) (k j:Nat):AV :=
 match j with
 | 0=>.int .i64 (shK c.2.1)
 | 1=>slV edC ⟨1,shE (pX k) (pY c.1) c.2.1⟩
 | 2=>.int .i64 (shR c.2.1)
 | 3=>.int .i64 (pX k)
 | 4=>.int .i64 (pY c.1)
 | _=>.int .i64 (.ofNat (2*c.2.2))
def padV (cs:List (Nat×Nat×Nat)) (i:Nat):AV :=
 match cs[i / 10]? with
 | some c=>padF c (i / 10) (i % 10)
 | none=>.nils
theorem frz_padV (cs:List (Nat×Nat×Nat)) (i:Nat):frz (padV cs i)=true:=by
 unfold padV
 split
 ·unfold padF
  split
  case h_2=>exact frz_slV frz_ed _
  all_goals rfl
 ·rfl
theorem one_padV (cs:List (Nat×Nat×Nat)) (i:Nat):(padV cs i).one=true:=by
 unfold padV
 split
 ·unfold padF
  split
  case h_2=>exact on_slV _ _
  all_goals rfl
 ·rfl
def kinT (cs:List (Nat×Nat×Nat)):Toks:=mkTok (padV cs) (frz_padV cs) (one_padV cs)
def padTokC (k:Nat):List AV:=[.str (nmOf k),.sym (10*k),.sym (10*k+1),.sym (10*k+2),.sym (10*k+3),.sym (10*k+4),.sym (10*k+5)]
def padTok (k:Nat):AV:=.agg (padTokC k)
def padToks:Nat→Nat→List AV
 | _,0=>[]
 | k,m+1=>padTokC k++padToks (k+1) m
def tyTok (nm:List Nat) (m:Nat) (gs:List GateD):AV:=.agg [.str nm,.rslc m (padToks 0 m),slV gateC ⟨0,gs⟩]
theorem pad_at {cs:List (Nat×Nat×Nat)} {k:Nat} {c:Nat×Nat×Nat} (h:cs[k]?=some c) (hk:k<10) {j:Nat} (hj:j<9):tokU (padV cs) (10*k+j)=padF c k j:=by
 rw [tokU_at _ (by omega)]
 have h2:(10*k+j) / 10=k:=by omega
 have h3:(10*k+j) % 10=j:=by omega
 simp only [padV,h2,h3,h]
theorem padTok_subst {cs:List (Nat×Nat×Nat)} {k:Nat} {c:Nat×Nat×Nat} (h:cs[k]?=some c) (hk:k<10):substs (kinT cs) (padTokC k)=padC (padOf k c.1 c.2.1 c.2.2):=by
 have h0:=pad_at h hk (j:=0) (by decide)
 have h1:=pad_at h hk (j:=1) (by decide)
 have h2:=pad_at h hk (j:=2) (by decide)
 have h3:=pad_at h hk (j:=3) (by decide)
 have h4:=pad_at h hk (j:=4) (by decide)
 have h5:=pad_at h hk (j:=5) (by decide)
 rw [Nat.add_zero] at h0
 simp only [padTokC,substs,AV.subst,kinT,mkTok,h0,h1,h2,h3,h4,h5]
 rfl
theorem padToks_subst {all:List (Nat×Nat×Nat)} (h10:all.length<10):∀ (cs:List (Nat×Nat×Nat)) (k:Nat),(∀ i c,cs[i]?=some c→all[k+i]?=some c)→substs (kinT all) (padToks k cs.length)=(padsOf k cs).flatMap padC
 | [],_,_=>rfl
 | c :: cs,k,h=>by
  have ih:=padToks_subst h10 cs (k+1) (fun i c' e=>by
   have:=h (i+1) c' e
   rwa [show k+1+i=k+(i+1) by omega])
  have h1:=h 0 c rfl
  rw [Nat.add_zero] at h1
  have hk:k<10:=by
   rcases Nat.lt_or_ge k all.length with h | h
   ·omega
   ·rw [List.getElem?_eq_none h] at h1; cases h1
  simp only [List.length_cons,padToks,substs_append,ih,padTok_subst h1 hk,padsOf,List.flatMap_cons]
theorem tyTok_subst {nm:List Nat} {cs:List (Nat×Nat×Nat)} {gs:List GateD} (h2:cs≠[]) (h6:cs.length<10) (hg:noTok (slV gateC ⟨0,gs⟩)=true):(tyTok nm cs.length gs).subst (kinT cs)=.agg (tyC (tyOf nm cs gs)):=by
 have e:slV padC ⟨1,padsOf 0 cs⟩=.rslc cs.length ((padsOf 0 cs).flatMap padC):=by
  rw [← len_padsOf 0 cs]
  cases hp:padsOf 0 cs with
  | nil =>
   cases cs with
   | nil=>exact absurd rfl h2
   | cons c cs=>cases hp
  | cons a l=>rfl
 simp only [tyTok,AV.subst,substs,padToks_subst h6 cs 0 (fun i c e=>by rw [Nat.zero_add]; exact e),subst_frz0 _ _ hg,tyC,tyOf,e]
theorem frz_padToks:∀ (m k:Nat),frzs (padToks k m)=true
 | 0,_=>rfl
 | m+1,k=>by
  simp only [padToks,padTokC,List.cons_append,List.nil_append,frzs,frz,frz_padToks m (k+1),Bool.and_self]
theorem frz_tyTok (nm:List Nat) (m:Nat) (gs:List GateD):frz (tyTok nm m gs)=true:=by
 simp only [tyTok,frz,frzs,frz_padToks,frz_slV frz_gate,Bool.and_self]
def gsOf:Nat→List GateD
 | 0=>[] | 1=>gs1 0 | 2=>gs1 1 | 3=>gs2 0 | 4=>gs2 1
 | 5=>gs3 0 0 | 6=>gs3 0 1 | 7=>gs3 0 2 | 8=>gs3 1 0 | 9=>gs3 1 1 | _=>gs3 1 2
def vars:List (Nat×Nat):=[(2,0),(2,1),(2,2),(3,0),(3,1),(3,2),(4,0),(4,3),(4,4),(5,0),(5,3),(5,4),(6,0),(6,3),(6,4),(6,5),(6,6),(6,7),(6,8),(6,9),(6,10)]
theorem vars_of {m:Nat} {gs:List GateD} (h2:2≤m) (h6:m≤6) (h:GOK m gs):∃ g,(m,g)∈vars∧gs=gsOf g:=by
 have hm:m=2∨m=3∨m=4∨m=5∨m=6:=by omega
 rcases h with rfl | ⟨h4,x,hx,rfl⟩ | ⟨h4,x,hx,rfl⟩ | ⟨rfl,x,k,hx,hk,rfl⟩
 ·refine ⟨0,?_,rfl⟩
  rcases hm with rfl | rfl | rfl | rfl | rfl<;>decide
 ·have hx:x=0∨x=1:=by omega
  rcases hx with rfl | rfl
  ·refine ⟨1,?_,rfl⟩
   rcases hm with rfl | rfl | rfl | rfl | rfl<;>first | decide | omega
  ·refine ⟨2,?_,rfl⟩
   rcases hm with rfl | rfl | rfl | rfl | rfl<;>first | decide | omega
 ·have hx:x=0∨x=1:=by omega
  rcases hx with rfl | rfl
  ·refine ⟨3,?_,rfl⟩
   rcases hm with rfl | rfl | rfl | rfl | rfl<;>first | decide | omega
  ·refine ⟨4,?_,rfl⟩
   rcases hm with rfl | rfl | rfl | rfl | rfl<;>first | decide | omega
 ·have hx:x=0∨x=1:=by omega
  have hk:k=0∨k=1∨k=2:=by omega
  rcases hx with rfl | rfl<;>rcases hk with rfl | rfl | rfl
  ·exact ⟨5,by decide,rfl⟩
  ·exact ⟨6,by decide,rfl⟩
  ·exact ⟨7,by decide,rfl⟩
  ·exact ⟨8,by decide,rfl⟩
  ·exact ⟨9,by decide,rfl⟩
  ·exact ⟨10,by decide,rfl⟩
theorem gs_no:∀ v∈vars,noTok (slV gateC ⟨0,gsOf v.2⟩)=true:=by
 intro v hv
 simp only [vars,List.mem_cons,List.not_mem_nil,or_false] at hv
 rcases hv with rfl | rfl | rfl | rfl | rfl | rfl | rfl | rfl | rfl | rfl | rfl | rfl | rfl | rfl | rfl | rfl | rfl | rfl | rfl | rfl | rfl<;>rfl
end Go.Abs.Sym
namespace Go.Abs.T
open Go.Abs.Sym
open AV
def padS:Nat→(Pth→List AV→H→Option AV)→Pth→List AV→H→Option AV
 | 0,more=>more
 | m+1,more=>oneSums f_padErr (padTok m) i0 (padS m more)
def tabN:List (Pth×List AV×AV):=[(f_right,[str [82]],bool true),(f_right,[str [81]],bool true),
 (f_expand,[str [80,49]],tup [rslc 1 [str [80,49]],bool true]),(f_expand,[str [80,50]],tup [rslc 1 [str [80,50]],bool true]),(f_expand,[str [80,51]],tup [rslc 1 [str [80,51]],bool true]),
 (f_expand,[str [80,52]],tup [rslc 1 [str [80,52]],bool true]),(f_expand,[str [80,53]],tup [rslc 1 [str [80,53]],bool true]),(f_expand,[str [80,54]],tup [rslc 1 [str [80,54]],bool true])]
def XC (m:Nat):Ctx:={ X0 with sums:=padS m (tabSums tabN (fun _ _ _=>none)) }
noncomputable def chkB (nm:List Nat) (m g:Nat):Bool:=F.callC (XC m) 100 (.fn f_check [] []) [tyTok nm m (gsOf g)] h0 (isV i0)
theorem chkAll:[[82],[81]].all (fun nm=>vars.all (fun v=>chkB nm v.1 v.2))=true:=by kernel_rfl
theorem rN0:rowB X0 100 (tabN.getD 0 (f_right,[],i0))=true:=by kernel_rfl
theorem rN1:rowB X0 100 (tabN.getD 1 (f_right,[],i0))=true:=by kernel_rfl
theorem rN2:rowB X0 100 (tabN.getD 2 (f_right,[],i0))=true:=by kernel_rfl
theorem rN3:rowB X0 100 (tabN.getD 3 (f_right,[],i0))=true:=by kernel_rfl
theorem rN4:rowB X0 100 (tabN.getD 4 (f_right,[],i0))=true:=by kernel_rfl
theorem rN5:rowB X0 100 (tabN.getD 5 (f_right,[],i0))=true:=by kernel_rfl
theorem rN6:rowB X0 100 (tabN.getD 6 (f_right,[],i0))=true:=by kernel_rfl
theorem rN7:rowB X0 100 (tabN.getD 7 (f_right,[],i0))=true:=by kernel_rfl
theorem rowsN:Rows X0 tabN:=.s rN0 (.s rN1 (.s rN2 (.s rN3 (.s rN4 (.s rN5 (.s rN6 (.s rN7 .z)))))))
end Go.Abs.T
end
