/- What the arguments read as, as abstract values. -/
import Derived.Test.YtaendaokfclnoaaGreatDoorC20
import Derived.OpenShut
import Derived.Test.YtaendaokfclnoaaGreatDoorRows
import Derived.ProofKit
import Derived.LaidMore
import Derived.Stop.Joined
import Derived.ReadAgain
import Derived.Test.YtaendaokfclnoaaGreatDoorC35
import Derived.Handed
import Derived.Lay
import Derived.MakeChecks
noncomputable section
section
section
namespace Go.Abs
variable [envI:Env]
inductive Ty where
 | bool
 | int (k:IntKind)
 | str
 | slc (e:Ty)
 | agg (fs:List Ty)
 deriving Inhabited
mutual
def Ty.size:Ty→Nat
 | .agg fs=>Ty.sizes fs
 | _=>1
def Ty.sizes:List Ty→Nat
 | []=>0
 | f::fs=>f.size+Ty.sizes fs
end
mutual
def qB:Ty→List AV→Prop
 | .bool,al=>∃ b,al=[.bool b]
 | .int k,al=>∃ n,(Lit.int k n).wf=true∧al=[.int k n]
 | .str,al=>∃ s:List Nat,s.length≤maxLen∧(∀ b∈s,b<256)∧al=[.str s]
 | .slc e,al=>al=[.nils]∨∃ ess:List (List AV),ess.length≤maxLen∧(∀ es∈ess,qB e es)∧al=[.rslc ess.length ess.flatten]
 | .agg fs,al=>kR fs al
def kR:List Ty→List AV→Prop
 | [],al=>al=[]
 | f::fs,al=>∃ a b,qB f a∧kR fs b∧al=a++b
end
mutual
def xOl (P:Program):Ty→TypeId→Bool
 | .bool,t=>match P.underlying t with | some .bool=>true | _=>false
 | .int k,t=>match P.underlying t with | some (.int k')=>eqK k' k | _=>false
 | .str,t=>match P.underlying t with | some .string=>true | _=>false
 | .slc e,t=>match P.underlying t with | some (.slice e')=>Nat.beq (P.cellsOf e') e.size&&xOl P e e' | _=>false
 | .agg fs,t=>Nat.beq (P.cellsOf t) (Ty.sizes fs)&&(match P.underlying t with
  | some (.struct fs')=>xQz P fs 0 (fs'.toList.map fun f=>(f.type,f.offset))
  | some (.array n e)=>xQz P fs 0 ((List.range n).map fun i=>(e,i*P.cellsOf e))
  | _=>false)
def xQz (P:Program):List Ty→Nat→List (TypeId×Nat)→Bool
 | [],_,[]=>true
 | f::fs,off,(t,o)::l=>Nat.beq o off&&Nat.beq (P.cellsOf t) f.size&&xOl P f t&&xQz P fs (off+f.size) l
 | _,_,_=>false
end
omit envI in
mutual
theorem qB.frz:∀ {ty:Ty} {al:List AV},qB ty al→frzs al=true
 | .bool,al,h=>by
  simp only [qB] at h
  obtain ⟨b,rfl⟩:=h
  rfl
 | .int k,al,h=>by
  simp only [qB] at h
  obtain ⟨n,_,rfl⟩:=h
  rfl
 | .str,al,h=>by
  simp only [qB] at h
  obtain ⟨s,_,_,rfl⟩:=h
  rfl
 | .slc e, al,h=>by
  simp only [qB] at h
  rcases h with rfl | ⟨ess,_,h,rfl⟩
  ·rfl
  ·have : ∀ l:List (List AV),(∀ es∈l,qB e es)→frzs l.flatten=true:=by
    intro l
    induction l with
    | nil=>intro _; rfl
    | cons es l ih =>
     intro h
     have happ:∀ a b:List AV,frzs (a++b)=(frzs a&&frzs b):=by
      intro a b
      induction a with
      | nil=>simp only [List.nil_append,frzs,Bool.true_and]
      | cons v a ih=>simp only [List.cons_append,frzs,ih,Bool.and_assoc]
     rw [List.flatten_cons,happ,qB.frz (h es (List.mem_cons_self ..)),ih (fun x hx=>h x (List.mem_cons_of_mem _ hx))]
     rfl
   simp only [frzs,Abs.frz,this ess h,Bool.and_true]
 | .agg fs,al,h=>by
  simp only [qB] at h
  exact kR.frz h
theorem kR.frz:∀ {fs:List Ty} {al:List AV},kR fs al→frzs al=true
 | [],al,h=>by
  simp only [kR] at h
  subst h
  rfl
 | f :: fs,al,h=>by
  simp only [kR] at h
  obtain ⟨a,b,h1,h2,rfl⟩:=h
  have happ:∀ a b:List AV,frzs (a++b)=(frzs a&&frzs b):=by
   intro a b
   induction a with
   | nil=>simp only [List.nil_append,frzs,Bool.true_and]
   | cons v a ih=>simp only [List.cons_append,frzs,ih,Bool.and_assoc]
  rw [happ,qB.frz h1,kR.frz h2]
  rfl
end
omit envI in
mutual
theorem qB.size:∀ {ty:Ty} {al:List AV},qB ty al→al.length=ty.size
 | .bool,al,h=>by simp only [qB] at h; obtain ⟨b,rfl⟩:=h; rfl
 | .int k,al,h=>by simp only [qB] at h; obtain ⟨n,_,rfl⟩:=h; rfl
 | .str,al,h=>by simp only [qB] at h; obtain ⟨s,_,_,rfl⟩:=h; rfl
 | .slc e,al,h=>by
  simp only [qB] at h
  rcases h with rfl | ⟨ess,_,h,rfl⟩<;>rfl
 | .agg fs,al,h=>by
  simp only [qB] at h
  exact kR.size h
theorem kR.size:∀ {fs:List Ty} {al:List AV},kR fs al→al.length=Ty.sizes fs
 | [],al,h=>by simp only [kR] at h; subst h; rfl
 | f::fs,al,h=>by
  simp only [kR] at h
  obtain ⟨a,b,h1,h2,rfl⟩:=h
  rw [List.length_append,qB.size h1,kR.size h2]
  rfl
end
section
variable {H:Type} {enc:TypeId×Value→H} {P:Program} {w:World} {spare:Nat→Bool} {held:Bool}
theorem dY {w:World} {ρ:Nm} {L:Nat→Prop}:∀ {a b:List AV} {x y:List Value},VRs w ρ L a x→VRs w ρ L b y→VRs w ρ L (a++b) (x++y)
 | [],b,x,y,h1,h2=>by
  simp only [VRs] at h1
  subst h1
  exact h2
 | v::a,b,x,y,h1,h2=>by
  simp only [VRs] at h1
  obtain ⟨u,us,rfl,h3,h4⟩:=h1
  simp only [List.cons_append,VRs]
  exact ⟨u,us++y,rfl,h3,dY h4 h2⟩
theorem xLb {w:World} {ρ:Nm} {L:Nat→Prop}:∀ {a:List AV} {x z:List Value},VRs w ρ L a x→VRp w ρ L a (x++z)
 | [],x,z,h=>by simp only [VRp]
 | v::a,x,z,h=>by
  simp only [VRs] at h
  obtain ⟨u,us,rfl,h3,h4⟩:=h
  simp only [List.cons_append,VRp]
  exact ⟨u,us++z,rfl,h3,xLb h4⟩
omit envI in
theorem nl0 {b:Nat} (h:b<w.heap.size):NL (ρ0 w) (Lv (ρ0 w) h0) b:=⟨zAf b,h⟩
omit envI in
theorem mapM_cells {α:Type} {f:Nat→Option α}:∀ {l:List Nat} {xs:List α},l.mapM f=some xs→xs.length=l.length∧∀ i (h:i<l.length),f l[i]=xs[i]?:=by
 intro l
 induction l with
 | nil=>intro xs h; simp at h; subst h; exact ⟨rfl,fun i h=>absurd h (Nat.not_lt_zero _)⟩
 | cons a l ih =>
  intro xs h
  simp only [List.mapM_cons,Option.bind_eq_bind,Option.bind_eq_some_iff,Option.pure_def,Option.some.injEq] at h
  obtain ⟨x,h1,xs',h2,rfl⟩:=h
  obtain ⟨h3,h4⟩:=ih h2
  refine ⟨by simp [h3],fun i hi => ?_⟩
  cases i with
  | zero=>simp [h1]
  | succ i=>simp at hi ⊢; exact h4 i hi
omit envI in
theorem xTk {a:Addr} {n:Nat} {cs:List Value} (h:w.cells? 0 a n=some cs) (hn:0<n):∃ b off c el fz,a=⟨b,off,none⟩∧w.heap[b]?=some (.cells c el fz)∧cs.length=n∧cs=(c.toList.drop off).take n∧off+n≤c.size:=by
 unfold World.cells? at h
 rw [if_pos (Nat.zero_le _)] at h
 obtain ⟨hl,hi⟩:=mapM_cells h
 rw [List.length_range] at hl
 have hget:∀ i,i<n→w.cell? (a.add i)=cs[i]?:=by
  intro i hin
  have:=hi i (by rw [List.length_range]; exact hin)
  rwa [List.getElem_range] at this
 have h0':=hget 0 hn
 rw [List.getElem?_eq_getElem (by omega)] at h0'
 have hsp:a.spot=none:=by
  have:=World.cell?_spot h0'
  obtain ⟨b,off,spot⟩:=a
  simpa only [Addr.add,if_true,reduceIte] using this
 obtain ⟨b,off,spot⟩:=a
 simp only at hsp
 subst hsp
 rw [add_plain] at h0'
 unfold World.cell? at h0'
 simp only at h0'
 cases hb:w.heap[b]? with
 | none=>rw [hb] at h0'; cases h0'
 | some o =>
  rw [hb] at h0'
  cases o with
  | cells c el fz =>
   have hall:∀ i,i<n→c[off+i]?=cs[i]?:=by
    intro i hin
    have:=hget i hin
    rw [add_plain] at this
    unfold World.cell? at this
    simp only [hb] at this
    exact this
   have hsz:off+n≤c.size:=by
    have:=hall (n - 1) (by omega)
    rw [List.getElem?_eq_getElem (by omega)] at this
    obtain ⟨hlt,_⟩:=Array.getElem?_eq_some_iff.1 this
    omega
   refine ⟨b,off,c,el,fz,rfl,hb,hl,?_,hsz⟩
   apply List.ext_getElem?
   intro i
   rcases Nat.lt_or_ge i n with hin | hin
   ·rw [← hall i hin,List.getElem?_take_of_lt hin,List.getElem?_drop,Array.getElem?_toList]
   ·rw [List.getElem?_eq_none (by omega),List.getElem?_eq_none (by simp; omega)]
  | _=>cases h0'
omit envI in
theorem xBk {α:Type} (l:List α) (a n m:Nat):(l.drop a).take (n+m)=(l.drop a).take n++(l.drop (a+n)).take m:=by
 rw [List.take_add,List.drop_drop]
theorem xWg {ρ:Nm} {L:Nat→Prop} {al:List AV} {l:List Value} {n:Nat} (h:VRs w ρ L al (l.take n)):VRp w ρ L al l:=by
 have:=xLb (z:=l.drop n) h
 rwa [List.take_append_drop] at this
theorem xTd {ρ:Nm} {L:Nat→Prop}:VRs w ρ L [] []:=by simp only [VRs]
theorem yG1 {e:Ty} {e':TypeId} {a:Addr} {len sz fuel:Nat} (_hsz:sz=e.size) (hpos:0<sz) (hlen:0<len)
  (ih:∀ {cs:List Value} {x:DataW H×List MemPlace},DataW.trod enc P w 0 spare held fuel e' cs=some x→∃ al,qB e al∧VRs w (ρ0 w) (Lv (ρ0 w) h0) al cs)
  (hel:∀ i,i<len→∃ x,(w.cells? 0 (a.add (i*sz)) sz).bind (DataW.trod enc P w 0 spare held fuel e')=some x) :
  ∃ b off c el fz,a=⟨b,off,none⟩∧w.heap[b]?=some (.cells c el fz)∧∀ n,n≤len→∃ ess:List (List AV),ess.length=n∧(∀ es∈ess,qB e es)∧VRs w (ρ0 w) (Lv (ρ0 w) h0) ess.flatten ((c.toList.drop off).take (n*sz)):=by
 obtain ⟨x0,hx0⟩:=hel 0 hlen
 obtain ⟨cs0,hc0,_⟩:=Option.bind_eq_some_iff.1 hx0
 obtain ⟨b,off,c,el,fz,ha,hb,_⟩:=xTk hc0 hpos
 have ha':a=⟨b,off,none⟩:=by
  obtain ⟨b0,o0,s0⟩:=a
  simp only [Addr.add,Nat.zero_mul,Nat.add_zero] at ha
  exact ha
 refine ⟨b,off,c,el,fz,ha',hb,?_⟩
 intro n
 induction n with
 | zero=>intro _; exact ⟨[],rfl,fun _ h=>absurd h (List.not_mem_nil),by rw [Nat.zero_mul,List.take_zero]; exact xTd⟩
 | succ n ihn =>
  intro hn
  obtain ⟨ess,h1,h2,h3⟩:=ihn (by omega)
  obtain ⟨x,hx⟩:=hel n (by omega)
  obtain ⟨cs,hc,hx⟩:=Option.bind_eq_some_iff.1 hx
  obtain ⟨al,g1,g2⟩:=ih hx
  obtain ⟨b',off',c',el',fz',hadd,hb',_,hcs,hle⟩:=xTk hc hpos
  rw [ha'] at hadd
  rw [add_plain] at hadd
  simp only [Addr.mk.injEq] at hadd
  obtain ⟨rfl,rfl,_⟩:=hadd
  rw [hb] at hb'
  cases hb'
  refine ⟨ess++[al],by rw [List.length_append,h1]; rfl,?_,?_⟩
  ·intro es hes
   rcases List.mem_append.1 hes with h | h
   ·exact h2 es h
   ·rw [List.mem_singleton.1 h]; exact g1
  ·rw [List.flatten_append,show (n+1)*sz=n*sz+sz from Nat.succ_mul n sz,xBk]
   refine dY h3 ?_
   rw [← hcs]
   simpa using g2
mutual
theorem xD5 : ∀ (ty:Ty) {t:TypeId},xOl P ty t=true→∀ {fuel:Nat} {cs:List Value} {x:DataW H×List MemPlace},DataW.trod enc P w 0 spare held fuel t cs=some x →
  ∃ al,qB ty al∧VRs w (ρ0 w) (Lv (ρ0 w) h0) al cs
 | .bool,t,hty,fuel,cs,x,h=>by
  simp only [xOl] at hty
  split at hty
  ·rename_i hu
   obtain ⟨b,rfl,_⟩:=DataW.trod_bool hu h
   exact ⟨[.bool b],by simp only [qB]; exact ⟨b,rfl⟩,by simp only [VRs,VR]; exact ⟨_,_,rfl,rfl,rfl⟩⟩
  ·cases hty
 | .int k,t,hty,fuel,cs,x,h=>by
  simp only [xOl] at hty
  split at hty
  ·rename_i k' hu
   obtain ⟨n,rfl,_,hw⟩:=DataW.trod_int hu h
   obtain rfl:k'=k:=by cases k'<;>cases k<;>first | rfl | cases hty
   exact ⟨[.int k' n],by simp only [qB]; exact ⟨n,hw,rfl⟩,by simp only [VRs,VR]; exact ⟨_,_,rfl,rfl,rfl⟩⟩
  ·cases hty
 | .str,t,hty,fuel,cs,x,h=>by
  simp only [xOl] at hty
  split at hty
  ·rename_i hu
   obtain ⟨s,rfl,_,hs⟩:=DataW.trod_string hu h
   refine ⟨[.str (xP s)],?_,by simp only [VRs,VR]; exact ⟨_,_,rfl,⟨s,rfl,rfl⟩,rfl⟩⟩
   simp only [qB]
   refine ⟨_,?_,?_,rfl⟩
   ·simp only [xP,List.length_map,Array.length_toList]
    exact hs
   ·intro b hb
    simp only [xP,List.mem_map] at hb
    obtain ⟨u,_,rfl⟩:=hb
    exact u.toNat_lt
  ·cases hty
 | .slc e, t, hty,fuel,cs,x,h=>by
  simp only [xOl] at hty
  split at hty
  ·rename_i e' hu
   simp only [Bool.and_eq_true] at hty
   have hsz:P.cellsOf e'=e.size:=Nat.eq_of_beq_eq_true hty.1
   rcases DataW.trod_slice hu h with ⟨rfl,_⟩ | ⟨a,len,cap,elems,rest,n,rfl,rfl,_,_,hlc,hcm,hel,hat,_⟩
   ·exact ⟨[.nils],by simp only [qB]; exact .inl trivial,by simp only [VRs,VR]; exact ⟨_,_,rfl,rfl,rfl⟩⟩
   ·have hat' : ∀ i,i<len→∃ x,(w.cells? 0 (a.add (i*P.cellsOf e')) (P.cellsOf e')).bind (DataW.trod enc P w 0 spare held n e')=some x:=by
     intro i hi
     exact ⟨elems[i]'(by omega),by rw [hat i hi,List.getElem?_eq_getElem]⟩
    rcases Nat.eq_zero_or_pos len with h0' | hpos
    ·subst h0'
     refine ⟨[.rslc 0 []],?_,?_⟩
     ·simp only [qB]
      exact .inr ⟨[],Nat.zero_le _,fun _ h=>absurd h (List.not_mem_nil),rfl⟩
     ·simp only [VRs,VR]
      exact ⟨_,_,rfl,⟨some a,cap,rfl,hlc,.inl ⟨trivial,rfl⟩⟩,rfl⟩
    ·rcases Nat.eq_zero_or_pos (P.cellsOf e') with hz | hz
     ·have hess:∀ k,k≤len→∃ ess:List (List AV),ess.length=k∧(∀ es∈ess,qB e es):=by
       intro k
       induction k with
       | zero=>intro _; exact ⟨[],rfl,fun _ h=>absurd h (List.not_mem_nil)⟩
       | succ k ih =>
        intro hk
        obtain ⟨ess,g1,g2⟩:=ih (by omega)
        obtain ⟨x,hx⟩:=hat' k (by omega)
        obtain ⟨cs,hc,hx⟩:=Option.bind_eq_some_iff.1 hx
        obtain ⟨al,k1,_⟩:=xD5 e hty.2 hx
        exact ⟨al::ess,by rw [List.length_cons,g1],fun es hes=>by
         rcases List.mem_cons.1 hes with rfl | h
         ·exact k1
         ·exact g2 es h⟩
      obtain ⟨ess,g1,g2⟩:=hess len (Nat.le_refl _)
      have hfl:ess.flatten=[]:=by
       rw [List.flatten_eq_nil_iff]
       intro es hes
       exact List.eq_nil_of_length_eq_zero (by rw [(g2 es hes).size,← hsz,hz])
      refine ⟨[.rslc len []],?_,?_⟩
      ·simp only [qB]
       exact .inr ⟨ess,by omega,g2,by rw [hfl,g1]⟩
      ·simp only [VRs,VR]
       exact ⟨_,_,rfl,⟨some a,cap,rfl,hlc,.inl ⟨trivial,rfl⟩⟩,rfl⟩
     ·obtain ⟨b,off,c,el,fz,rfl,hb,hrow⟩:=yG1 hsz hz hpos (fun hx=>xD5 e hty.2 hx) hat'
      obtain ⟨ess,g1,g2,g3⟩:=hrow len (Nat.le_refl _)
      refine ⟨[.rslc len ess.flatten],?_,?_⟩
      ·simp only [qB]
       exact .inr ⟨ess,by omega,g2,by rw [g1]⟩
      ·simp only [VRs,VR]
       exact ⟨_,_,rfl,⟨_,cap,rfl,hlc,.inr ⟨b,off,c,el,fz,rfl,nl0 (lt_of_heap hb),hb,xWg g3⟩⟩,rfl⟩
  ·cases hty
 | .agg fs,t,hty,fuel,cs,x,h=>by
  simp only [xOl,Bool.and_eq_true] at hty
  obtain ⟨hsz,hty⟩:=hty
  have hsz:=Nat.eq_of_beq_eq_true hsz
  split at hty
  ·rename_i fs' hu
   obtain ⟨xs,n,rfl,_,hl,hxs,hat⟩:=DataW.trod_struct hu h
   obtain ⟨al,g1,g2⟩:=xOk fs hty (fuel:=n) (cs:=cs) (by
    intro t o hm
    obtain ⟨f,hf,he⟩:=List.mem_map.1 hm
    simp only [Prod.mk.injEq] at he
    obtain ⟨rfl,rfl⟩:=he
    obtain ⟨i,hi,rfl⟩:=List.getElem_of_mem hf
    rw [Array.length_toList] at hi
    exact ⟨xs[i]'(by omega),by rw [← List.getElem?_eq_getElem,← hat i _ (Array.getElem?_eq_getElem hi)]; rfl⟩) (by omega)
   refine ⟨al,by simp only [qB]; exact g1,?_⟩
   rwa [List.drop_zero,List.take_of_length_le (by omega)] at g2
  ·rename_i m e hu
   obtain ⟨xs,n,rfl,_,hl,hxs,hat⟩:=DataW.trod_array hu h
   obtain ⟨al,g1,g2⟩:=xOk fs hty (fuel:=n) (cs:=cs) (by
    intro t o hm
    obtain ⟨i,hi,he⟩:=List.mem_map.1 hm
    simp only [Prod.mk.injEq] at he
    obtain ⟨rfl,rfl⟩:=he
    rw [List.mem_range] at hi
    exact ⟨xs[i]'(by omega),by rw [← List.getElem?_eq_getElem,← hat i hi]⟩) (by omega)
   refine ⟨al,by simp only [qB]; exact g1,?_⟩
   rwa [List.drop_zero,List.take_of_length_le (by omega)] at g2
  ·cases hty
theorem xOk:∀ (fs:List Ty) {off:Nat} {l:List (TypeId×Nat)},xQz P fs off l=true→∀ {fuel:Nat} {cs:List Value},
  (∀ t o,(t,o)∈l→∃ x,DataW.trod enc P w 0 spare held fuel t ((cs.drop o).take (P.cellsOf t))=some x)→off+Ty.sizes fs≤cs.length →
  ∃ al,kR fs al∧VRs w (ρ0 w) (Lv (ρ0 w) h0) al ((cs.drop off).take (Ty.sizes fs))
 | [],off,l,hl,fuel,cs,h,hle=>⟨[],by simp only [kR],by simp only [Ty.sizes,List.take_zero]; exact xTd⟩
 | f::fs,off,[],hl,fuel,cs,h,hle=>by simp [xQz] at hl
 | f::fs,off,(t,o)::l,hl,fuel,cs,h,hle=>by
  simp only [xQz,Bool.and_eq_true] at hl
  obtain ⟨⟨⟨h1,h2⟩,h3⟩,h4⟩:=hl
  have h1:=Nat.eq_of_beq_eq_true h1
  have h2:=Nat.eq_of_beq_eq_true h2
  subst h1
  simp only [Ty.sizes] at hle
  obtain ⟨x,hx⟩:=h t o (List.mem_cons_self ..)
  obtain ⟨al,g1,g2⟩:=xD5 f h3 hx
  obtain ⟨bs,k1,k2⟩:=xOk fs h4 (cs:=cs) (fun t o hm=>h t o (List.mem_cons_of_mem _ hm)) (by omega)
  refine ⟨al++bs,by simp only [kR]; exact ⟨al,bs,g1,k1,rfl⟩,?_⟩
  simp only [Ty.sizes]
  rw [xBk]
  rw [h2] at g2
  exact dY g2 k2
end
end
end Go.Abs
end
section
namespace Go.Abs.Sym
open Go.Abs.T
open Go.Proofs
theorem zA8 {α:Type} {f:α→List AV}:∀ {ess:List (List AV)},(∀ es∈ess,∃ a,es=f a)→∃ l:List α,ess=l.map f
 | [],_=>⟨[],rfl⟩
 | es::ess,h=>by
  obtain ⟨a,ha⟩:=h es List.mem_cons_self
  obtain ⟨l,hl⟩:=zA8 (fun x hx=>h x (List.mem_cons_of_mem _ hx))
  exact ⟨a::l,by rw [ha,hl]; rfl⟩
theorem xT1 {α:Type} {f:α→List AV} {e:Ty} (he:∀ es,qB e es→∃ a,es=f a) {xs:List AV} (h:qB (.slc e) xs):∃ s:Sl α,s.l.length≤maxLen∧xs=[slV f s]:=by
 simp only [qB] at h
 rcases h with rfl | ⟨ess,h1,h2,rfl⟩
 ·exact ⟨⟨0,[]⟩,Nat.zero_le _,rfl⟩
 ·obtain ⟨l,rfl⟩:=zA8 (fun es hes=>he es (h2 es hes))
  refine ⟨⟨1,l⟩,by rwa [List.length_map] at h1,?_⟩
  rw [xAr,List.length_map]
  rfl
theorem int_of {es:List AV} (h:qB (.int .i64) es):∃ a,es=inC a:=by
 simp only [qB] at h
 obtain ⟨n,_,rfl⟩:=h
 exact ⟨n,rfl⟩
end Go.Abs.Sym
end
end
section
namespace Go.Proofs.YtaendaokfclnoaaGreatDoor
open Go.ChangeShapes Go.WideShapes Go.ChangeAt Go.RowKit
open Go.Abs Go.Abs.Sym
noncomputable def xX0 (P:Program):Bool:=match ((begin P (fun _ _=>0) default).world.heap[0]?).bind Obj.row? with
 | some (z,t)=>decide (0<P.globals.size)&&z.size==1&&P.buildable t&&P.cellTypes P.depth t==some [t]&&(match P.underlying t with | some (.int .i64)=>true | _=>false)
 | none=>false
theorem zZc {P:Program} {w:World} (hf:xX0 P=true) (h:w.ShapedOpen P):xOp w:=by
 have h1:=h.1
 unfold xX0 at hf
 cases hz:((begin P (fun _ _=>0) default).world.heap[0]?).bind Obj.row? with
 | none=>rw [hz] at hf; cases hf
 | some zt =>
  obtain ⟨z,t⟩:=zt
  rw [hz] at hf
  simp only [Bool.and_eq_true,decide_eq_true_eq,beq_iff_eq] at hf
  obtain ⟨⟨⟨⟨g0,g1⟩,g2⟩,g3⟩,g4⟩:=hf
  obtain ⟨cs,e1,e2,e3⟩:=h1 0 z t g0 hz
  obtain ⟨ts,k1,_,k2⟩:=e3 g2
  rw [g3] at k1
  cases k1
  have hsz:cs.size=1:=by rw [e2,g1]
  obtain ⟨u,u1,u2⟩:=k2 0 cs[0] (by simp [hsz])
  simp only [List.length_cons,List.length_nil,Nat.zero_mod,List.getElem?_cons_zero,Option.some.injEq] at u1
  subst u1
  have g5:P.underlying t=some (.int .i64):=by
   split at g4
   ·assumption
   ·cases g4
  obtain ⟨m,hm⟩:∃ m:Int,cs[0]=.int .i64 m:=by
   unfold Cell.ok at u2
   rw [g5] at u2
   cases hv:cs[0]<;>rw [hv] at u2<;>simp only at u2
   exact ⟨_,by rw [u2.1]⟩
  refine ⟨cs,_,_,[],m,e1,?_⟩
  have : cs.toList=[cs[0]]:=by
   apply List.ext_getElem
   ·simp [hsz]
   ·intro i h1 h2
    simp at h2
    subst h2
    simp
  rw [this,hm]
theorem first_ok:xX0 Tryz.prog=true:=by kernel_rfl
theorem yFo {w:World} (h:w.ShapedOpen Tryz.prog):xOp w:=zZc first_ok h
end Go.Proofs.YtaendaokfclnoaaGreatDoor
end
section
namespace Go.Abs.Sym
open Go.Abs.T
open Go.Proofs
def xLo:Ty:=.agg [.slc (.int .i64),.slc (.int .i64),.slc (.int .i64),.agg [.int .i64,.int .i64,.int .i64],.agg [.int .u8,.int .u8],.bool]
def xOb:Ty:=.agg [.str,.str,.str,.bool]
theorem yRb:xOl Tryz.prog xLo 26=true:=by kernel_rfl
theorem yRc:xOl Tryz.prog (.slc .str) 27=true:=by kernel_rfl
theorem yRd:xOl Tryz.prog xOb 29=true:=by kernel_rfl
theorem yDi {n:Int} (h:(Lit.int .u8 n).wf=true):∃ a:Nat,a<256∧n=.ofNat a:=by
 have h1:(IntKind.u8).min=0:=rfl
 have h2:(IntKind.u8).max=255:=rfl
 simp only [Lit.wf,h1,h2,Bool.and_eq_true,decide_eq_true_eq] at h
 exact ⟨n.toNat,by omega,by simp only [Int.ofNat_eq_natCast]; omega⟩
theorem zXi {es:List AV} (h:qB xLo es):∃ c,es=dK c∧xHh c:=by
 simp only [xLo] at h
 rw [qB] at h
 simp only [kR] at h
 obtain ⟨a,b,h1,⟨a2,b2,h2,⟨a3,b3,h3,⟨a4,b4,h4,⟨a5,b5,h5,⟨a6,b6,h6,rfl,rfl⟩,rfl⟩,rfl⟩,rfl⟩,rfl⟩,rfl⟩:=h
 obtain ⟨l1,e1,rfl⟩:=xT1 (fun _ h=>int_of h) h1
 obtain ⟨l2,e2,rfl⟩:=xT1 (fun _ h=>int_of h) h2
 obtain ⟨l3,e3,rfl⟩:=xT1 (fun _ h=>int_of h) h3
 simp only [qB,kR] at h4 h5 h6
 obtain ⟨_,_,⟨o0,_,rfl⟩,⟨_,_,⟨o1,_,rfl⟩,⟨_,_,⟨o2,_,rfl⟩,rfl,rfl⟩,rfl⟩,rfl⟩:=h4
 obtain ⟨_,_,⟨s0,w0,rfl⟩,⟨_,_,⟨s1,w1,rfl⟩,rfl,rfl⟩,rfl⟩:=h5
 obtain ⟨g,rfl⟩:=h6
 obtain ⟨x0,b0,rfl⟩:=yDi w0
 obtain ⟨x1,b1,rfl⟩:=yDi w1
 have hm:maxLen<9223372036854775808:=by decide
 exact ⟨⟨l1,l2,l3,o0,o1,o2,x0,x1,g⟩,rfl,by show l1.l.length<_; omega,by show l2.l.length<_; omega,by show l3.l.length<_; omega,b0,b1⟩
theorem yA4 {es:List AV} (h:qB (.slc .str) es):∃ s:Sl (List Nat),es=[slV xN s]:=by
 obtain ⟨s,_,e⟩:=xT1 (f:=xN) (fun es h=>by
  simp only [qB] at h
  obtain ⟨s,_,_,rfl⟩:=h
  exact ⟨s,rfl⟩) h
 exact ⟨s,e⟩
theorem yA7 {es:List AV} (h:qB xOb es):∃ z a b q,es=swC z a b q:=by
 simp only [xOb] at h
 rw [qB] at h
 simp only [kR,qB] at h
 obtain ⟨_,_,⟨z,_,_,rfl⟩,⟨_,_,⟨a,_,_,rfl⟩,⟨_,_,⟨b,_,_,rfl⟩,⟨_,_,⟨q,rfl⟩,rfl,rfl⟩,rfl⟩,rfl⟩,rfl⟩:=h
 exact ⟨z,a,b,q,rfl⟩
end Go.Abs.Sym
end
section
namespace Go.Proofs.YtaendaokfclnoaaGreatDoor
open Go.ChangeShapes Go.WideShapes Go.ChangeAt Go.RowKit
open Go.Abs Go.Abs.Sym
theorem own:ownKnob Tryz.prog.godebug=none:=by kernel_rfl
theorem kids:Kids Tryz.prog (· < Tryz.prog.types.size):=kids_rows (by kernel_rfl) (by kernel_rfl)
theorem full:∀ t e,t<Tryz.prog.types.size→Tryz.prog.underlying t=some (.slice e)→0<Tryz.prog.cellsOf e:=slices_full_of Tryz.prog (by kernel_rfl)
theorem zFc:∀ t∈Tryz.f3.params.toList,t<Tryz.prog.types.size:=by
 rw [Tryz.params3]
 have h:([26,27,29].all fun t=>decide (t<Tryz.prog.types.size))=true:=by kernel_rfl
 intro t ht
 simpa using List.all_eq_true.1 h t ht
theorem zFh {W W':World} (hk:∀ b,b<W.heap.size→W'.heap[b]?=W.heap[b]?) {p:MemPlace} (hp:p.block<W.heap.size):W.sameAt W' p:=by
 cases p with
 | cell b off =>
  show _=_
  simp only [World.cell?]
  rw [hk b hp]
 | map b=>exact hk b hp
theorem xE8 {H:Type} {enc:TypeId×Value→H} {P:Program} {W W':World} {base:Nat} {spare:Nat→Bool} {held:Bool}:∀ {ts:List TypeId} {vs:List Value} {ds:List (DataW H)} {ps:List MemPlace},
  DataW.TrodAll enc P W base spare held ts vs ds ps→(∀ p∈ps,W.sameAt W' p)→DataW.TrodAll enc P W' base spare held ts vs ds ps
 | [],[],[],_,h,_=>h
 | _::_,_::_,_::_,_,⟨p,q,⟨n,h1⟩,h2,e⟩,hs=>⟨p,q,⟨n,DataW.trod_carry n _ _ _ h1 (fun x hx=>hs x (by rw [e]; exact List.mem_append_left _ hx))⟩,xE8 h2 (fun x hx=>hs x (by rw [e]; exact List.mem_append_right _ hx)),e⟩
theorem run (rows:AllRows) (W:World) (ho:xOp W) (v0 v1 v2:Value) (a b c:List AV) (hv:@VRs yU W (ρ0 W) (Lv (ρ0 W) Abs.h0) ([.agg a]++(b++[.agg c])) [v0,v1,v2]) (ha:qB xLo a) (hb:qB (.slc .str) b) (hc:qB xOb c) :
  Calls Tryz.prog 3 #[v0,v1,v2] W (fun e w'=>e=.returned (.bool true)∧(∀ b,b<W.heap.size→w'.heap[b]?=W.heap[b]?)∧W.heap.size≤w'.heap.size∧w'.os=W.os∧w'.output=W.output):=by
 obtain ⟨d,rfl,hd⟩:=zXi ha
 obtain ⟨L,rfl⟩:=yA4 hb
 obtain ⟨z,A,B,q,rfl⟩:=yA7 hc
 obtain ⟨X,xo,hg,hs,hF,v,h1,hcall,rfl⟩:=xX9 rows d hd L z A B q
 have:=zHg (envI:=yU) xo (n:=59) hcall (hs _) (HR.empty (envI:=yU) (P:=Tryz.prog) (w:=W) hg ho) (avs := #[v0,v1,v2]) hv hF
 refine this.mono fun e w' ⟨vv,he,hB⟩ => ?_
 have hk:=vC.kept (envI:=yU) hB
 obtain ⟨ρ',_,_,hvv⟩:=hB
 simp only [VR] at hvv
 rw [he,hvv]
 exact ⟨rfl,hk.1,hk.2.1,hk.2.2.1,hk.2.2.2.1⟩
end Go.Proofs.YtaendaokfclnoaaGreatDoor
end
section
namespace Go.Proofs.YtaendaokfclnoaaGreatDoor
open Go.ChangeShapes Go.WideShapes Go.ChangeAt Go.RowKit
open Go.Abs Go.Abs.Sym
theorem xO4 {H:Type} {enc:TypeId×Value→H} {a:Assume} {C:Checked} {os:Os} {f:FuncId} {fn:Func} {s:ChangeSpec} {conds:List PathCond} {apart fresh handsOn again:Bool} {X:World→Array Value→Prop}
  (hX:∀ (w w':World) (args:Array Value),w.heap=w'.heap→X w args→X w' args)
  (own:ownKnob C.prog.godebug=none) (started:os.Started) (noInit:C.prog.inits.idxOf? f=none) (hfn:C.prog.funcs[f]?=some fn)
  (witness:∃ (w:World) (tape:Tape) (i:Input),w.os=os∧(w.forCall tape i).Shaped C.prog∧i.vars=[]∧Input.okWide C.prog (w.forCall tape i) .any w.heap.size f i ∧
   ((s.pre enc C.prog fn conds apart (w.forCall tape i).memory i.args∧X (w.forCall tape i).memory i.args)∧sizedMet enc C.prog fn (OpenSpec.ofChange s) apart (w.forCall tape i).memory i.args)∧a.holds C.prog (lone (Frame.enter C.prog f i.args .normal) [] (w.forCall tape i)))
  (contract:∀ (W:World) (base:Nat) (args:Array Value) (ds gs:List (DataW H)) (before:List MemPlace),W.ShapedOpen C.prog →
   (∀ (j:Nat) t v,fn.params[j]?=some t→args[j]?=some v→Value.okWide C.prog W .any base t v) →
   DataW.Whole enc C.prog fn.params.toList s.vars apart W args.toList ds gs before →
   Calls C.prog f args W fun e W'=>∃ v,e=.returned v∧s.post enc C.prog fn apart fresh handsOn again W args v W') :
  ReturnsInHanded a C os f .any (fun w args=>(s.pre enc C.prog fn conds apart w args∧X w args)∧sizedMet enc C.prog fn (OpenSpec.ofChange s) apart w args) (s.post enc C.prog fn apart fresh handsOn again):=by
 have _:=hX
 refine returnsInHanded_of_calls own started noInit witness ?_
 intro w tape i _ hsh _ hok hpre _
 obtain ⟨_,_,_,fn',hfn',_,_,_,_,hval⟩:=hok
 have e:fn'=fn:=Option.some.inj (hfn'.symm.trans hfn)
 subst e
 obtain ⟨⟨⟨ds,gs,before,hw,_⟩,_⟩,_⟩:=hpre
 have hw':=DataW.Whole.of_heap (w':=w.forCall tape i) (by rfl) hw
 refine (contract (w.forCall tape i) w.heap.size i.args ds gs before hsh hval hw').mono fun e W' ⟨v,he,hp⟩ => ?_
 subst he
 exact ChangeSpec.post_blind hp
theorem yA3 {P:Program} {W:World} {base:Nat} {t e:TypeId} {v:Value} (hd:P.underlying t=some (.slice e)) (h:Value.okWide P W .any base t v):v.cells.toList=[v]:=by
 unfold Value.okWide at h
 rw [hd] at h
 simp only at h
 unfold Cell.okWide Cell.ok at h
 rw [hd] at h
 cases v<;>first | rfl | exact absurd h id
set_option maxRecDepth 10000 in
theorem zGw {W:World} {base:Nat} {t:TypeId} {v:Value} {fs:Array Field} (hd:Tryz.prog.underlying t=some (.struct fs)) (h:Value.okWide Tryz.prog W .any base t v):∃ cs,v=.agg cs:=by
 unfold Value.okWide at h
 rw [hd] at h
 obtain ⟨cs,h,_⟩:=h
 exact ⟨cs,h⟩
set_option maxRecDepth 100000 in
theorem lifted (rows:AllRows) (os:Os) (started:os.Started) (H:Type) (enc:TypeId×Value→H) :
  ReturnsInHanded {} Tryz.checked os 3 .any (fun w args=>(Rows.libCanonsSpec.pre enc Tryz.prog Tryz.f3 [] false w args∧laidMetH Tryz.prog Rows.libCanonsRow.laid w)∧sizedMet enc Tryz.prog Tryz.f3 (OpenSpec.ofChange Rows.libCanonsSpec) false w args)
   (Rows.libCanonsSpec.post enc Tryz.prog Tryz.f3 false true false false):=by
 refine xO4 (C:=Tryz.checked) (X:=fun w _=>laidMetH Tryz.prog Rows.libCanonsRow.laid w) (fun _ _ _ hh h=>h.of_heap hh) own started (by kernel_rfl) Tryz.func3
  (ChangeSpec.witness_shaped (enc:=enc) (C:=Tryz.checked) (os:=os) (X:=fun w _=>laidMetH Tryz.prog Rows.libCanonsRow.laid w) false (World.laidAll Tryz.prog os Rows.libCanonsRow.laid)
   #[.agg #[.slice none 0 0,.slice none 0 0,.slice none 0 0,.int .i64 0,.int .i64 0,.int .i64 0,.int .u8 0,.int .u8 0,.bool false],.slice none 0 0,.agg #[.string .empty,.string .empty,.string .empty,.bool false]] 8 (World.laidAll_os _ _ _) (World.shaped_of_ZipB (by kernel_rfl) (by kernel_rfl)) (by kernel_rfl) (by kernel_rfl) (by kernel_rfl)
   (by rw [MakeChecks.laidMetH_plain _ _ _ (by kernel_rfl)]; exact laidMet_laidAll _ (by kernel_rfl) (by kernel_rfl))) ?_
 intro W base args ds gs before hsh hval0 hW
 have hval:∀ (j:Nat) t v,Tryz.f3.params[j]?=some t→args[j]?=some v→Value.okWide Tryz.prog W .any base t v:=hval0
 have hop:=yFo hsh
 have hW':=hW
 obtain ⟨p,q,hA0,hV,rfl,hfz,hnd⟩:=hW
 have hA:DataW.TrodAll enc Tryz.prog W 0 (fun _=>true) true Tryz.f3.params.toList args.toList ds p:=hA0
 have hAk:=hA
 rw [Tryz.params3] at hA hval
 obtain ⟨v0,v1,v2,d0,d1,d2,p0,p1,p2,rfl,rfl,_,ht0,ht1,ht2⟩:=trodAll_three hA
 obtain ⟨rfl,rfl⟩:=trodVars_none hV
 obtain ⟨c0,rfl⟩:=zGw (t:=26) Tryz.underlying26 (hval 0 26 v0 rfl rfl)
 obtain ⟨c2,rfl⟩:=zGw (t:=29) Tryz.underlying29 (hval 2 29 v2 rfl rfl)
 obtain ⟨f0,ht0⟩:=ht0
 obtain ⟨f1,ht1⟩:=ht1
 obtain ⟨f2,ht2⟩:=ht2
 obtain ⟨a,ha,va⟩:=xD5 (envI:=yU) xLo yRb ht0
 obtain ⟨b,hb,vb⟩:=xD5 (envI:=yU) (.slc .str) yRc ht1
 obtain ⟨c,hc,vc⟩:=xD5 (envI:=yU) xOb yRd ht2
 rw [yA3 Tryz.underlying27 (hval 1 27 v1 rfl rfl)] at vb
 have w0:@VRs yU W (ρ0 W) (Lv (ρ0 W) Abs.h0) [.agg a] [.agg c0]:=by
  simp only [VRs,VR]
  exact ⟨_,_,rfl,⟨_,rfl,va⟩,rfl⟩
 have w2:@VRs yU W (ρ0 W) (Lv (ρ0 W) Abs.h0) [.agg c] [.agg c2]:=by
  simp only [VRs,VR]
  exact ⟨_,_,rfl,⟨_,rfl,vc⟩,rfl⟩
 have hv:=dY (envI:=yU) w0 (dY (envI:=yU) vb w2)
 refine (run rows W hop _ _ _ a b c hv ha hb hc).mono fun e W' ⟨he,hk,hsz,hos,hout⟩=>⟨_,he,?_⟩
 have hlt:=DataW.TrodAll.lt hAk
 refine ⟨[d0,d1,d2],[],_,[],p,[],hW',?_,?_,rfl,?_,fun h=>by cases h⟩
 ·exact trodAll_mk1 (shut_bool Tryz.underlying4 true)
 ·exact xE8 (DataW.TrodAll.respare kids full zFc hAk (fun p hp=>by simpa using hlt p hp)) (fun p hp=>zFh hk (hlt p hp))
 ·refine ⟨hos,hout,fun i hi => ?_⟩
  rw [hk i hi]
  cases W.heap[i]? with
  | none=>rfl
  | some o=>cases o<;>simp
end Go.Proofs.YtaendaokfclnoaaGreatDoor
end
end
