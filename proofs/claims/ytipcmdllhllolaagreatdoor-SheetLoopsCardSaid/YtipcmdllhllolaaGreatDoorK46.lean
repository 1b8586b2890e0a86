/- What the arguments read as, as abstract values. -/
import Derived.Test.YtipcmdllhllolaaGreatDoorK44
import Derived.OpenShut
import Derived.Test.YtipcmdllhllolaaGreatDoorRows
import Derived.ProofKit
import Derived.LaidMore
import Derived.Stop.Joined
import Derived.ReadAgain
noncomputable section
section
section
namespace Go.Abs
variable [envI:Env]
inductive Ty where
 | bool
 | int (k:IntKind)
 | str
 | slc (e:Ty)
 | agg (fs:List Ty)
 deriving Inhabited
mutual
def Ty.size:Ty→Nat
 | .agg fs=>Ty.sizes fs
 | _=>1
def Ty.sizes:List Ty→Nat
 | []=>0
 | f::fs=>f.size+Ty.sizes fs
end
mutual
def HasTy:Ty→List AV→Prop
 | .bool,al=>∃ b,al=[.bool b]
 | .int k,al=>∃ n,(Lit.int k n).wf=true∧al=[.int k n]
 | .str,al=>∃ s:List Nat,s.length≤maxLen∧(∀ b∈s,b<256)∧al=[.str s]
 | .slc e,al=>al=[.nils]∨∃ ess:List (List AV),ess.length≤maxLen∧(∀ es∈ess,HasTy e es)∧al=[.rslc ess.length ess.flatten]
 | .agg fs,al=>HasTys fs al
def HasTys:List Ty→List AV→Prop
 | [],al=>al=[]
 | f::fs,al=>∃ a b,HasTy f a∧HasTys fs b∧al=a++b
end
mutual
def tyOK (P:Program):Ty→TypeId→Bool
 | .bool,t=>match P.underlying t with | some .bool=>true | _=>false
 | .int k,t=>match P.underlying t with | some (.int k')=>eqK k' k | _=>false
 | .str,t=>match P.underlying t with | some .string=>true | _=>false
 | .slc e,t=>match P.underlying t with | some (.slice e')=>Nat.beq (P.cellsOf e') e.size&&tyOK P e e' | _=>false
 | .agg fs,t=>Nat.beq (P.cellsOf t) (Ty.sizes fs)&&(match P.underlying t with
  | some (.struct fs')=>tysOK P fs 0 (fs'.toList.map fun f=>(f.type,f.offset))
  | some (.array n e)=>tysOK P fs 0 ((List.range n).map fun i=>(e,i*P.cellsOf e))
  | _=>false)
def tysOK (P:Program):List Ty→Nat→List (TypeId×Nat)→Bool
 | [],_,[]=>true
 | f::fs,off,(t,o)::l=>Nat.beq o off&&Nat.beq (P.cellsOf t) f.size&&tyOK P f t&&tysOK P fs (off+f.size) l
 | _,_,_=>false
end
omit envI in
mutual
theorem HasTy.frz:∀ {ty:Ty} {al:List AV},HasTy ty al→frzs al=true
 | .bool,al,h=>by
  simp only [HasTy] at h
  obtain ⟨b,rfl⟩:=h
  rfl
 | .int k,al,h=>by
  simp only [HasTy] at h
  obtain ⟨n,_,rfl⟩:=h
  rfl
 | .str,al,h=>by
  simp only [HasTy] at h
  obtain ⟨s,_,_,rfl⟩:=h
  rfl
 | .slc e, al,h=>by
  simp only [HasTy] at h
  rcases h with rfl | ⟨ess,_,h,rfl⟩
  ·rfl
  ·have : ∀ l:List (List AV),(∀ es∈l,HasTy e es)→frzs l.flatten=true:=by
    intro l
    induction l with
    | nil=>intro _; rfl
    | cons es l ih =>
     intro h
     have happ:∀ a b:List AV,frzs (a++b)=(frzs a&&frzs b):=by
      intro a b
      induction a with
      | nil=>simp only [List.nil_append,frzs,Bool.true_and]
      | cons v a ih=>simp only [List.cons_append,frzs,ih,Bool.and_assoc]
     rw [List.flatten_cons,happ,HasTy.frz (h es (List.mem_cons_self ..)),ih (fun x hx=>h x (List.mem_cons_of_mem _ hx))]
     rfl
   simp only [frzs,Abs.frz,this ess h,Bool.and_true]
 | .agg fs,al,h=>by
  simp only [HasTy] at h
  exact HasTys.frz h
theorem HasTys.frz:∀ {fs:List Ty} {al:List AV},HasTys fs al→frzs al=true
 | [],al,h=>by
  simp only [HasTys] at h
  subst h
  rfl
 | f :: fs,al,h=>by
  simp only [HasTys] at h
  obtain ⟨a,b,h1,h2,rfl⟩:=h
  have happ:∀ a b:List AV,frzs (a++b)=(frzs a&&frzs b):=by
   intro a b
   induction a with
   | nil=>simp only [List.nil_append,frzs,Bool.true_and]
   | cons v a ih=>simp only [List.cons_append,frzs,ih,Bool.and_assoc]
  rw [happ,HasTy.frz h1,HasTys.frz h2]
  rfl
end
omit envI in
mutual
theorem HasTy.size:∀ {ty:Ty} {al:List AV},HasTy ty al→al.length=ty.size
 | .bool,al,h=>by simp only [HasTy] at h; obtain ⟨b,rfl⟩:=h; rfl
 | .int k,al,h=>by simp only [HasTy] at h; obtain ⟨n,_,rfl⟩:=h; rfl
 | .str,al,h=>by simp only [HasTy] at h; obtain ⟨s,_,_,rfl⟩:=h; rfl
 | .slc e,al,h=>by
  simp only [HasTy] at h
  rcases h with rfl | ⟨ess,_,h,rfl⟩<;>rfl
 | .agg fs,al,h=>by
  simp only [HasTy] at h
  exact HasTys.size h
theorem HasTys.size:∀ {fs:List Ty} {al:List AV},HasTys fs al→al.length=Ty.sizes fs
 | [],al,h=>by simp only [HasTys] at h; subst h; rfl
 | f::fs,al,h=>by
  simp only [HasTys] at h
  obtain ⟨a,b,h1,h2,rfl⟩:=h
  rw [List.length_append,HasTy.size h1,HasTys.size h2]
  rfl
end
section
variable {H:Type} {enc:TypeId×Value→H} {P:Program} {w:World} {spare:Nat→Bool} {held:Bool}
theorem VRs_append {w:World} {ρ:Nm} {L:Nat→Prop}:∀ {a b:List AV} {x y:List Value},VRs w ρ L a x→VRs w ρ L b y→VRs w ρ L (a++b) (x++y)
 | [],b,x,y,h1,h2=>by
  simp only [VRs] at h1
  subst h1
  exact h2
 | v::a,b,x,y,h1,h2=>by
  simp only [VRs] at h1
  obtain ⟨u,us,rfl,h3,h4⟩:=h1
  simp only [List.cons_append,VRs]
  exact ⟨u,us++y,rfl,h3,VRs_append h4 h2⟩
theorem VRp_of_VRs {w:World} {ρ:Nm} {L:Nat→Prop}:∀ {a:List AV} {x z:List Value},VRs w ρ L a x→VRp w ρ L a (x++z)
 | [],x,z,h=>by simp only [VRp]
 | v::a,x,z,h=>by
  simp only [VRs] at h
  obtain ⟨u,us,rfl,h3,h4⟩:=h
  simp only [List.cons_append,VRp]
  exact ⟨u,us++z,rfl,h3,VRp_of_VRs h4⟩
omit envI in
theorem nl0 {b:Nat} (h:b<w.heap.size):NL (ρ0 w) (Lv (ρ0 w) h0) b:=⟨no_live b,h⟩
omit envI in
theorem mapM_cells {α:Type} {f:Nat→Option α}:∀ {l:List Nat} {xs:List α},l.mapM f=some xs→xs.length=l.length∧∀ i (h:i<l.length),f l[i]=xs[i]?:=by
 intro l
 induction l with
 | nil=>intro xs h; simp at h; subst h; exact ⟨rfl,fun i h=>absurd h (Nat.not_lt_zero _)⟩
 | cons a l ih =>
  intro xs h
  simp only [List.mapM_cons,Option.bind_eq_bind,Option.bind_eq_some_iff,Option.pure_def,Option.some.injEq] at h
  obtain ⟨x,h1,xs',h2,rfl⟩:=h
  obtain ⟨h3,h4⟩:=ih h2
  refine ⟨by simp [h3],fun i hi => ?_⟩
  cases i with
  | zero=>simp [h1]
  | succ i=>simp at hi ⊢; exact h4 i hi
omit envI in
theorem cells_at {a:Addr} {n:Nat} {cs:List Value} (h:w.cells? 0 a n=some cs) (hn:0<n):∃ b off c el fz,a=⟨b,off,none⟩∧w.heap[b]?=some (.cells c el fz)∧cs.length=n∧cs=(c.toList.drop off).take n∧off+n≤c.size:=by
 unfold World.cells? at h
 rw [if_pos (Nat.zero_le _)] at h
 obtain ⟨hl,hi⟩:=mapM_cells h
 rw [List.length_range] at hl
 have hget:∀ i,i<n→w.cell? (a.add i)=cs[i]?:=by
  intro i hin
  have:=hi i (by rw [List.length_range]; exact hin)
  rwa [List.getElem_range] at this
 have h0':=hget 0 hn
 rw [List.getElem?_eq_getElem (by omega)] at h0'
 have hsp:a.spot=none:=by
  have:=World.cell?_spot h0'
  obtain ⟨b,off,spot⟩:=a
  simpa only [Addr.add,if_true,reduceIte] using this
 obtain ⟨b,off,spot⟩:=a
 simp only at hsp
 subst hsp
 rw [add_plain] at h0'
 unfold World.cell? at h0'
 simp only at h0'
 cases hb:w.heap[b]? with
 | none=>rw [hb] at h0'; cases h0'
 | some o =>
  rw [hb] at h0'
  cases o with
  | cells c el fz =>
   have hall:∀ i,i<n→c[off+i]?=cs[i]?:=by
    intro i hin
    have:=hget i hin
    rw [add_plain] at this
    unfold World.cell? at this
    simp only [hb] at this
    exact this
   have hsz:off+n≤c.size:=by
    have:=hall (n - 1) (by omega)
    rw [List.getElem?_eq_getElem (by omega)] at this
    obtain ⟨hlt,_⟩:=Array.getElem?_eq_some_iff.1 this
    omega
   refine ⟨b,off,c,el,fz,rfl,hb,hl,?_,hsz⟩
   apply List.ext_getElem?
   intro i
   rcases Nat.lt_or_ge i n with hin | hin
   ·rw [← hall i hin,List.getElem?_take_of_lt hin,List.getElem?_drop,Array.getElem?_toList]
   ·rw [List.getElem?_eq_none (by omega),List.getElem?_eq_none (by simp; omega)]
  | _=>cases h0'
omit envI in
theorem take_drop_split {α:Type} (l:List α) (a n m:Nat):(l.drop a).take (n+m)=(l.drop a).take n++(l.drop (a+n)).take m:=by
 rw [List.take_add,List.drop_drop]
theorem VRp_prefix {ρ:Nm} {L:Nat→Prop} {al:List AV} {l:List Value} {n:Nat} (h:VRs w ρ L al (l.take n)):VRp w ρ L al l:=by
 have:=VRp_of_VRs (z:=l.drop n) h
 rwa [List.take_append_drop] at this
theorem VRs_nil' {ρ:Nm} {L:Nat→Prop}:VRs w ρ L [] []:=by simp only [VRs]
theorem row_av {e:Ty} {e':TypeId} {a:Addr} {len sz fuel:Nat} (_hsz:sz=e.size) (hpos:0<sz) (hlen:0<len)
  (ih:∀ {cs:List Value} {x:DataW H×List MemPlace},DataW.trod enc P w 0 spare held fuel e' cs=some x→∃ al,HasTy e al∧VRs w (ρ0 w) (Lv (ρ0 w) h0) al cs)
  (hel:∀ i,i<len→∃ x,(w.cells? 0 (a.add (i*sz)) sz).bind (DataW.trod enc P w 0 spare held fuel e')=some x) :
  ∃ b off c el fz,a=⟨b,off,none⟩∧w.heap[b]?=some (.cells c el fz)∧∀ n,n≤len→∃ ess:List (List AV),ess.length=n∧(∀ es∈ess,HasTy e es)∧VRs w (ρ0 w) (Lv (ρ0 w) h0) ess.flatten ((c.toList.drop off).take (n*sz)):=by
 obtain ⟨x0,hx0⟩:=hel 0 hlen
 obtain ⟨cs0,hc0,_⟩:=Option.bind_eq_some_iff.1 hx0
 obtain ⟨b,off,c,el,fz,ha,hb,_⟩:=cells_at hc0 hpos
 have ha':a=⟨b,off,none⟩:=by
  obtain ⟨b0,o0,s0⟩:=a
  simp only [Addr.add,Nat.zero_mul,Nat.add_zero] at ha
  exact ha
 refine ⟨b,off,c,el,fz,ha',hb,?_⟩
 intro n
 induction n with
 | zero=>intro _; exact ⟨[],rfl,fun _ h=>absurd h (List.not_mem_nil),by rw [Nat.zero_mul,List.take_zero]; exact VRs_nil'⟩
 | succ n ihn =>
  intro hn
  obtain ⟨ess,h1,h2,h3⟩:=ihn (by omega)
  obtain ⟨x,hx⟩:=hel n (by omega)
  obtain ⟨cs,hc,hx⟩:=Option.bind_eq_some_iff.1 hx
  obtain ⟨al,g1,g2⟩:=ih hx
  obtain ⟨b',off',c',el',fz',hadd,hb',_,hcs,hle⟩:=cells_at hc hpos
  rw [ha'] at hadd
  rw [add_plain] at hadd
  simp only [Addr.mk.injEq] at hadd
  obtain ⟨rfl,rfl,_⟩:=hadd
  rw [hb] at hb'
  cases hb'
  refine ⟨ess++[al],by rw [List.length_append,h1]; rfl,?_,?_⟩
  ·intro es hes
   rcases List.mem_append.1 hes with h | h
   ·exact h2 es h
   ·rw [List.mem_singleton.1 h]; exact g1
  ·rw [List.flatten_append,show (n+1)*sz=n*sz+sz from Nat.succ_mul n sz,take_drop_split]
   refine VRs_append h3 ?_
   rw [← hcs]
   simpa using g2
mutual
theorem trod_av : ∀ (ty:Ty) {t:TypeId},tyOK P ty t=true→∀ {fuel:Nat} {cs:List Value} {x:DataW H×List MemPlace},DataW.trod enc P w 0 spare held fuel t cs=some x →
  ∃ al,HasTy ty al∧VRs w (ρ0 w) (Lv (ρ0 w) h0) al cs
 | .bool,t,hty,fuel,cs,x,h=>by
  simp only [tyOK] at hty
  split at hty
  ·rename_i hu
   obtain ⟨b,rfl,_⟩:=DataW.trod_bool hu h
   exact ⟨[.bool b],by simp only [HasTy]; exact ⟨b,rfl⟩,by simp only [VRs,VR]; exact ⟨_,_,rfl,rfl,rfl⟩⟩
  ·cases hty
 | .int k,t,hty,fuel,cs,x,h=>by
  simp only [tyOK] at hty
  split at hty
  ·rename_i k' hu
   obtain ⟨n,rfl,_,hw⟩:=DataW.trod_int hu h
   obtain rfl:k'=k:=by cases k'<;>cases k<;>first | rfl | cases hty
   exact ⟨[.int k' n],by simp only [HasTy]; exact ⟨n,hw,rfl⟩,by simp only [VRs,VR]; exact ⟨_,_,rfl,rfl,rfl⟩⟩
  ·cases hty
 | .str,t,hty,fuel,cs,x,h=>by
  simp only [tyOK] at hty
  split at hty
  ·rename_i hu
   obtain ⟨s,rfl,_,hs⟩:=DataW.trod_string hu h
   refine ⟨[.str (bytesL s)],?_,by simp only [VRs,VR]; exact ⟨_,_,rfl,⟨s,rfl,rfl⟩,rfl⟩⟩
   simp only [HasTy]
   refine ⟨_,?_,?_,rfl⟩
   ·simp only [bytesL,List.length_map,Array.length_toList]
    exact hs
   ·intro b hb
    simp only [bytesL,List.mem_map] at hb
    obtain ⟨u,_,rfl⟩:=hb
    exact u.toNat_lt
  ·cases hty
 | .slc e, t, hty,fuel,cs,x,h=>by
  simp only [tyOK] at hty
  split at hty
  ·rename_i e' hu
   simp only [Bool.and_eq_true] at hty
   have hsz:P.cellsOf e'=e.size:=Nat.eq_of_beq_eq_true hty.1
   rcases DataW.trod_slice hu h with ⟨rfl,_⟩ | ⟨a,len,cap,elems,rest,n,rfl,rfl,_,_,hlc,hcm,hel,hat,_⟩
   ·exact ⟨[.nils],by simp only [HasTy]; exact .inl trivial,by simp only [VRs,VR]; exact ⟨_,_,rfl,rfl,rfl⟩⟩
   ·have hat' : ∀ i,i<len→∃ x,(w.cells? 0 (a.add (i*P.cellsOf e')) (P.cellsOf e')).bind (DataW.trod enc P w 0 spare held n e')=some x:=by
     intro i hi
     exact ⟨elems[i]'(by omega),by rw [hat i hi,List.getElem?_eq_getElem]⟩
    rcases Nat.eq_zero_or_pos len with h0' | hpos
    ·subst h0'
     refine ⟨[.rslc 0 []],?_,?_⟩
     ·simp only [HasTy]
      exact .inr ⟨[],Nat.zero_le _,fun _ h=>absurd h (List.not_mem_nil),rfl⟩
     ·simp only [VRs,VR]
      exact ⟨_,_,rfl,⟨some a,cap,rfl,hlc,.inl ⟨trivial,rfl⟩⟩,rfl⟩
    ·rcases Nat.eq_zero_or_pos (P.cellsOf e') with hz | hz
     ·have hess:∀ k,k≤len→∃ ess:List (List AV),ess.length=k∧(∀ es∈ess,HasTy e es):=by
       intro k
       induction k with
       | zero=>intro _; exact ⟨[],rfl,fun _ h=>absurd h (List.not_mem_nil)⟩
       | succ k ih =>
        intro hk
        obtain ⟨ess,g1,g2⟩:=ih (by omega)
        obtain ⟨x,hx⟩:=hat' k (by omega)
        obtain ⟨cs,hc,hx⟩:=Option.bind_eq_some_iff.1 hx
        obtain ⟨al,k1,_⟩:=trod_av e hty.2 hx
        exact ⟨al::ess,by rw [List.length_cons,g1],fun es hes=>by
         rcases List.mem_cons.1 hes with rfl | h
         ·exact k1
         ·exact g2 es h⟩
      obtain ⟨ess,g1,g2⟩:=hess len (Nat.le_refl _)
      have hfl:ess.flatten=[]:=by
       rw [List.flatten_eq_nil_iff]
       intro es hes
       exact List.eq_nil_of_length_eq_zero (by rw [(g2 es hes).size,← hsz,hz])
      refine ⟨[.rslc len []],?_,?_⟩
      ·simp only [HasTy]
       exact .inr ⟨ess,by omega,g2,by rw [hfl,g1]⟩
      ·simp only [VRs,VR]
       exact ⟨_,_,rfl,⟨some a,cap,rfl,hlc,.inl ⟨trivial,rfl⟩⟩,rfl⟩
     ·obtain ⟨b,off,c,el,fz,rfl,hb,hrow⟩:=row_av hsz hz hpos (fun hx=>trod_av e hty.2 hx) hat'
      obtain ⟨ess,g1,g2,g3⟩:=hrow len (Nat.le_refl _)
      refine ⟨[.rslc len ess.flatten],?_,?_⟩
      ·simp only [HasTy]
       exact .inr ⟨ess,by omega,g2,by rw [g1]⟩
      ·simp only [VRs,VR]
       exact ⟨_,_,rfl,⟨_,cap,rfl,hlc,.inr ⟨b,off,c,el,fz,rfl,nl0 (lt_of_heap hb),hb,VRp_prefix g3⟩⟩,rfl⟩
  ·cases hty
 | .agg fs,t,hty,fuel,cs,x,h=>by
  simp only [tyOK,Bool.and_eq_true] at hty
  obtain ⟨hsz,hty⟩:=hty
  have hsz:=Nat.eq_of_beq_eq_true hsz
  split at hty
  ·rename_i fs' hu
   obtain ⟨xs,n,rfl,_,hl,hxs,hat⟩:=DataW.trod_struct hu h
   obtain ⟨al,g1,g2⟩:=trods_av fs hty (fuel:=n) (cs:=cs) (by
    intro t o hm
    obtain ⟨f,hf,he⟩:=List.mem_map.1 hm
    simp only [Prod.mk.injEq] at he
    obtain ⟨rfl,rfl⟩:=he
    obtain ⟨i,hi,rfl⟩:=List.getElem_of_mem hf
    rw [Array.length_toList] at hi
    exact ⟨xs[i]'(by omega),by rw [← List.getElem?_eq_getElem,← hat i _ (Array.getElem?_eq_getElem hi)]; rfl⟩) (by omega)
   refine ⟨al,by simp only [HasTy]; exact g1,?_⟩
   rwa [List.drop_zero,List.take_of_length_le (by omega)] at g2
  ·rename_i m e hu
   obtain ⟨xs,n,rfl,_,hl,hxs,hat⟩:=DataW.trod_array hu h
   obtain ⟨al,g1,g2⟩:=trods_av fs hty (fuel:=n) (cs:=cs) (by
    intro t o hm
    obtain ⟨i,hi,he⟩:=List.mem_map.1 hm
    simp only [Prod.mk.injEq] at he
    obtain ⟨rfl,rfl⟩:=he
    rw [List.mem_range] at hi
    exact ⟨xs[i]'(by omega),by rw [← List.getElem?_eq_getElem,← hat i hi]⟩) (by omega)
   refine ⟨al,by simp only [HasTy]; exact g1,?_⟩
   rwa [List.drop_zero,List.take_of_length_le (by omega)] at g2
  ·cases hty
theorem trods_av:∀ (fs:List Ty) {off:Nat} {l:List (TypeId×Nat)},tysOK P fs off l=true→∀ {fuel:Nat} {cs:List Value},
  (∀ t o,(t,o)∈l→∃ x,DataW.trod enc P w 0 spare held fuel t ((cs.drop o).take (P.cellsOf t))=some x)→off+Ty.sizes fs≤cs.length →
  ∃ al,HasTys fs al∧VRs w (ρ0 w) (Lv (ρ0 w) h0) al ((cs.drop off).take (Ty.sizes fs))
 | [],off,l,hl,fuel,cs,h,hle=>⟨[],by simp only [HasTys],by simp only [Ty.sizes,List.take_zero]; exact VRs_nil'⟩
 | f::fs,off,[],hl,fuel,cs,h,hle=>by simp [tysOK] at hl
 | f::fs,off,(t,o)::l,hl,fuel,cs,h,hle=>by
  simp only [tysOK,Bool.and_eq_true] at hl
  obtain ⟨⟨⟨h1,h2⟩,h3⟩,h4⟩:=hl
  have h1:=Nat.eq_of_beq_eq_true h1
  have h2:=Nat.eq_of_beq_eq_true h2
  subst h1
  simp only [Ty.sizes] at hle
  obtain ⟨x,hx⟩:=h t o (List.mem_cons_self ..)
  obtain ⟨al,g1,g2⟩:=trod_av f h3 hx
  obtain ⟨bs,k1,k2⟩:=trods_av fs h4 (cs:=cs) (fun t o hm=>h t o (List.mem_cons_of_mem _ hm)) (by omega)
  refine ⟨al++bs,by simp only [HasTys]; exact ⟨al,bs,g1,k1,rfl⟩,?_⟩
  simp only [Ty.sizes]
  rw [take_drop_split]
  rw [h2] at g2
  exact VRs_append g2 k2
end
end
end Go.Abs
end
section
namespace Go.Abs.Sym
open Go.Abs.T
open Go.Proofs
theorem list_of {α:Type} {f:α→List AV}:∀ {ess:List (List AV)},(∀ es∈ess,∃ a,es=f a)→∃ l:List α,ess=l.map f
 | [],_=>⟨[],rfl⟩
 | es::ess,h=>by
  obtain ⟨a,ha⟩:=h es List.mem_cons_self
  obtain ⟨l,hl⟩:=list_of (fun x hx=>h x (List.mem_cons_of_mem _ hx))
  exact ⟨a::l,by rw [ha,hl]; rfl⟩
theorem slc_of {α:Type} {f:α→List AV} {e:Ty} (he:∀ es,HasTy e es→∃ a,es=f a) {xs:List AV} (h:HasTy (.slc e) xs):∃ s:Sl α,s.l.length≤maxLen∧xs=[slV f s]:=by
 simp only [HasTy] at h
 rcases h with rfl | ⟨ess,h1,h2,rfl⟩
 ·exact ⟨⟨0,[]⟩,Nat.zero_le _,rfl⟩
 ·obtain ⟨l,rfl⟩:=list_of (fun es hes=>he es (h2 es hes))
  refine ⟨⟨1,l⟩,by rwa [List.length_map] at h1,?_⟩
  rw [slV_rslc,List.length_map]
  rfl
theorem int_of {es:List AV} (h:HasTy (.int .i64) es):∃ a,es=inC a:=by
 simp only [HasTy] at h
 obtain ⟨n,_,rfl⟩:=h
 exact ⟨n,rfl⟩
end Go.Abs.Sym
end
end
end
