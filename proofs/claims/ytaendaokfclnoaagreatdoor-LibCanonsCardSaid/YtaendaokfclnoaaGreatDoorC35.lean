/- Odd types: both packages say the same of them. -/
import Derived.Test.YtaendaokfclnoaaGreatDoorC21
import Derived.Test.YtaendaokfclnoaaGreatDoorC27
import Derived.Test.YtaendaokfclnoaaGreatDoorC34
import Derived.Test.YtaendaokfclnoaaGreatDoorC25
import Derived.KernelRfl
import Derived.Test.YtaendaokfclnoaaGreatDoorC26
noncomputable section
section
namespace Go.Abs.Sym
open Go.Abs.T
open Go.Proofs
theorem xV4 (a b:Int):leI a b=decide (a≤b):=nP
theorem zTq:∀ (n:Nat) (l:List AV),l.length≤n→2≤wOf l
 | _,[],_=>by decide
 | 0,_::_,h=>absurd h (by simp)
 | n + 1,a::l,h=>by
  simp only [List.length_cons] at h
  unfold wOf
  split
  ·rename_i k b l' heq
   cases heq
   cases hb:leI 2 k with
   | true=>rw [xV4] at hb; exact of_decide_eq_true hb
   | false=>exact zTq n l' (by simp only [List.length_cons] at h; omega)
  ·decide
theorem zTm:∀ (n:Nat) (l:List AV),l.length≤n→2≤uOf l
 | _,[],_=>by decide
 | 0,_::_,h=>absurd h (by simp)
 | n + 1,a::l,h=>by
  simp only [List.length_cons] at h
  unfold uOf
  split
  ·rename_i k q ls l' heq
   cases heq
   simp only
   cases hb:leI 2 (yGb ls) with
   | true=>rw [xV4] at hb; exact of_decide_eq_true hb
   | false=>exact zTm n l' (by simp only [List.length_cons] at h; omega)
  ·decide
theorem yAp {T:TypD} (hl:T.pads.l.length≤60) (hn:T.pads.l≠[]∧T.pads.kind=1∨T.pads.l=[]∧T.pads.kind=0) (hb:yBk (slV jP T.gates)=true):∃ w u,TyI T (yDo (slV jP T.gates)) w u:=by
 cases hg:slV jP T.gates with
 | rslc q gs =>
  rw [hg] at hb
  refine ⟨wOf gs,uOf gs,hl,hn,zTq _ gs (Nat.le_refl _),zTm _ gs (Nat.le_refl _),fun t h1 h2 => ?_⟩
  rw [hg]
  simp only [yDo,AV.subst,xJi h1 h2 gs.length gs (Nat.le_refl _) hb]
 | nils=>exact ⟨2,2,hl,hn,by decide,by decide,fun t _ _=>by rw [hg]; rfl⟩
 | _ =>
  exfalso
  unfold slV at hg
  split at hg
  ·split at hg<;>cases hg
  ·cases hg
theorem xQy {T:TypD} (hl:T.pads.l.length≤60) (hn:T.pads.l≠[]∧T.pads.kind=1∨T.pads.l=[]∧T.pads.kind=0):TyI T (slV jP T.gates) 2 2 :=
 ⟨hl,hn,by decide,by decide,fun t _ _=>rI t _ (xI3 _)⟩
theorem xHg:∀ (l:List (List Nat)) (k:Nat) (c:AV),(zeros l)[k]?=some c→c=zj 0
 | [],_,_,h=>by cases h
 | _::l,0,c,h=>by cases h; rfl
 | _::l,k+1,c,h=>xHg l k c h
theorem xLg:∀ (l:List (List Nat)) (p k:Nat) (c:AV),(xTe p l)[k]?=some c→c=if k=p then .sym (bB+2) else zj 0
 | [],p,_,_,h=>by cases p<;>cases h
 | _::l,0,0,c,h=>by cases h; rfl
 | _::l,0,k+1,c,h=>by rw [xHg l k c h,if_neg (by omega)]
 | _::l,p+1,0,c,h=>by cases h; rw [if_neg (by omega)]
 | _::l,p+1,k+1,c,h=>by
  rw [xLg l p k c h]
  simp only [Nat.add_right_cancel_iff]
theorem xD8:∀ l:List (List Nat),∀ c∈zeros l,frz c=true:=fun l c hc=>by
 obtain ⟨k,hk⟩:=List.mem_iff_getElem?.1 hc
 rw [xHg l k c hk]
 rfl
theorem zBj (p:Nat) (l:List (List Nat)):∀ c∈xTe p l,frz c=true:=fun c hc=>by
 obtain ⟨k,hk⟩:=List.mem_iff_getElem?.1 hc
 rw [xLg l p k c hk]
 split<;>rfl
def xA4 (nm:List Nat) (r:Bool):Prop:=zP t47 [.str nm] (.bool r)∧zP t65 [.str nm] (.bool r)
theorem bS {nm:List Nat} {r:Bool} (h:([AV.str nm],AV.bool r)∈tR):xA4 nm r:=⟨wS tk0 (yO7 _ (List.mem_singleton.2 rfl) _ h),wS tk0 (yG9 _ (List.mem_singleton.2 rfl) _ h)⟩
def rtN (n:Nat):Bool:=Nat.beq n 3||Nat.beq n 5
theorem zS6 {n:Nat} (hn:n<8):xA4 (tnE n) (rtN n):=by
 have:n=0∨n=1∨n=2∨n=3∨n=4∨n=5∨n=6∨n=7:=by omega
 rcases this with rfl | rfl | rfl | rfl | rfl | rfl | rfl | rfl
 ·exact bS (List.mem_of_getElem? (i:=1) rfl)
 ·exact bS (List.mem_of_getElem? (i:=2) rfl)
 ·exact bS (List.mem_of_getElem? (i:=3) rfl)
 ·exact bS (List.mem_of_getElem? (i:=4) rfl)
 ·exact bS (List.mem_of_getElem? (i:=5) rfl)
 ·exact bS (List.mem_of_getElem? (i:=6) rfl)
 ·exact bS (List.mem_of_getElem? (i:=7) rfl)
 ·exact bS (List.mem_of_getElem? (i:=8) rfl)
theorem nU:xA4 xBh true:=bS (List.mem_of_getElem? (i:=0) rfl)
section
variable {T:TypD} (hl:T.pads.l.length≤60) (hn:T.pads.l≠[]∧T.pads.kind=1∨T.pads.l=[]∧T.pads.kind=0)
include hl hn
theorem xCt {r:Bool} {cl:List AV} {e:Int} (he:2≤e) (row:xLp (qN T) (slV jP T.gates) r cl xAy=true) (hr:xA4 T.nm r) (hz:∀ c∈cl,frz c=true)
  (hcl:∀ (t:Toks),t.val (bB+2)=.int .i64 e→∀ (k:Nat) (q:PadD) (c:AV),T.pads.l[k]?=some q→cl[k]?=some c→∃ n,c.subst t=.int .i64 n∧PadK q n):Agree T:=by
 obtain ⟨b1,b2,e1,e2,hp,h1,h2,F1,F2⟩:=xHn (xQy hl hn) he row hr.1 hr.2 hz hcl
 unfold xAy at hp
 rw [Bool.and_eq_true] at hp
 exact zBf F1 F2 (h1.1 hp.1) (h2.1 hp.2)
omit hl hn in
theorem xG5 (hk:∀ (k:Nat) (q:PadD),T.pads.l[k]?=some q→PadK q 0) (e:Int) (l:List (List Nat)):∀ (t:Toks),t.val (bB+2)=.int .i64 e→∀ (k:Nat) (q:PadD) (c:AV),T.pads.l[k]?=some q→(zeros l)[k]?=some c→∃ n,c.subst t=.int .i64 n∧PadK q n:=fun t _ k q c hq hc=>by
 rw [xHg l k c hc]
 exact ⟨0,rfl,hk k q hq⟩
theorem xOu (hk:∀ (k:Nat) (q:PadD),T.pads.l[k]?=some q→PadK q 0) (hr:xA4 T.nm true) (row:xLp (qN T) (slV jP T.gates) true (zeros (qN T)) xAy=true):Agree T :=
 xCt hl hn (e:=2) (by decide) row hr (xD8 _) (xG5 hk 2 _)
end
theorem xZx:∀ {x y:List (List Nat)},zXo x y=true→x=y
 | [],[],_=>rfl
 | a::x,b::y,h=>by
  simp only [zXo,Bool.and_eq_true] at h
  rw [qC.1 h.1,xZx h.2]
 | [],_::_,h=>by cases h
 | _::_,[],h=>by cases h
theorem zAc:∀ {m p:Nat},p<m→p∈rng m
 | 0,_,h=>absurd h (Nat.not_lt_zero _)
 | m+1,p,h=>by
  simp only [rng,List.mem_append,List.mem_singleton]
  by_cases hp:p=m
  ·exact .inr hp
  ·exact .inl (zAc (by omega))
def xR2:Prop:=∀ m,∀ e∈dbL m,xR m e=true∧xTb (tyN (dbN m e) (dbG e)) m∧zGt (tyN (dbN m e) (dbG e)) m
theorem xLe (D:xR2) {T:TypD} {m:Nat} (hm:T.pads.l.length=m) (h6:m≤6) (h0:T.pads.l≠[]) (hkd:T.pads.kind=1) (hk:∀ (k:Nat) (q:PadD),T.pads.l[k]?=some q→PadK q 0) (hr:xA4 T.nm true) (hin:zIi m (qN T) (slV jP T.gates)=true):Agree T:=by
 unfold zIi at hin
 rw [Bool.and_eq_true] at hin
 obtain ⟨hb,hin⟩:=hin
 obtain ⟨e,he,hq⟩:=List.any_eq_true.1 hin
 rw [Bool.and_eq_true] at hq
 have e1:=AV.beq_eq _ _ hq.1
 have e2:=xZx hq.2
 obtain ⟨d1,d2,d3⟩:=D m e he
 obtain ⟨w,u,I⟩:=yAp (T:=T) (by omega) (.inl ⟨h0,hkd⟩) hb
 rw [e1,e2] at d2 d3
 unfold xR at d1
 rw [e1,e2] at d1
 obtain ⟨b1,b2,n1,n2,hp,h1,h2,F1,F2⟩:=xHn I (e:=2) (by decide) d1 hr.1 hr.2 (xD8 _) (xG5 hk 2 _)
 unfold yD5 at hp
 rw [Bool.and_eq_true,Bool.not_eq_true',Bool.not_eq_true'] at hp
 have z1:n1=0:=Classical.byContradiction fun h=>by have:=h1.2 h; rw [hp.1] at this; cases this
 have z2:n2=0:=Classical.byContradiction fun h=>by have:=h2.2 h; rw [hp.2] at this; cases this
 subst z1 z2
 exact xWk I F1 F2 h0 (by omega) (by rw [hm]; exact d2) (by rw [hm]; exact d3)
theorem zHl:([2,3,4,5].all fun a=>[0,1,2,3,4,5,6,7].all fun n=>[0,1,2,3,4].all fun s=>[0,1,2,3].all fun d=>Nat.beq (bJ a n s d) 0||Nat.ble 2 (bJ a n s d))=true:=by kernel_rfl
theorem xAe {k:Nat} {c:Nat×Nat×Nat} (hk:k<6) (hc:gY c):PadK (gU k c.1 c.2.1 c.2.2) 0 :=
 xX2 (nm:=vF k) (a:=0) (n:=0) (k:=k) (b:=c.1) (s:=c.2.1) (d:=c.2.2) (by decide) (by decide) hk hc.1 hc.2.1 hc.2.2
theorem zC3 {k n:Nat} {c:Nat×Nat×Nat} (hk:k<6) (hc:gY c):PadK (zR9 1 n (gU k c.1 c.2.1 c.2.2)) 0 :=
 xX2 (nm:=nmE n) (a:=0) (n:=0) (k:=k) (b:=c.1) (s:=c.2.1) (d:=c.2.2) (by decide) (by decide) hk hc.1 hc.2.1 hc.2.2
theorem zRb {a n k:Nat} {c:Nat×Nat×Nat} (ha:a∈[2,3,4,5,6]) (hn:n<8) (hk:k<6) (hc:gY c):∃ e:Int,(e=0∨2≤e)∧PadK (zR9 a n (gU k c.1 c.2.1 c.2.2)) e:=by
 have key:∀ a∈[2,3,4,5],∃ e:Int,(e=0∨2≤e)∧PadK (bC (vF k) a n k c.1 c.2.1 c.2.2) e:=fun a ha=>by
  refine ⟨_,?_,xX2 (by simp only [List.mem_cons,List.not_mem_nil,or_false] at ha ⊢; omega) hn hk hc.1 hc.2.1 hc.2.2⟩
  have h:=nO (nO (nO (nO zHl ha) (show n∈[0,1,2,3,4,5,6,7] by simp only [List.mem_cons,List.not_mem_nil,or_false]; omega)) (show c.2.1∈[0,1,2,3,4] by have:=hc.2.1; simp only [List.mem_cons,List.not_mem_nil,or_false]; omega)) (show c.2.2∈[0,1,2,3] by have:=hc.2.2; simp only [List.mem_cons,List.not_mem_nil,or_false]; omega)
  rw [Bool.or_eq_true] at h
  rcases h with h | h
  ·exact .inl (by rw [Nat.eq_of_beq_eq_true h]; rfl)
  ·have:=Nat.le_of_ble_eq_true h
   exact .inr (by simp only [Int.ofNat_eq_natCast]; omega)
 simp only [List.mem_cons,List.not_mem_nil,or_false] at ha
 rcases ha with rfl | rfl | rfl | rfl | rfl
 ·exact key 2 (by decide)
 ·exact key 3 (by decide)
 ·exact key 4 (by decide)
 ·exact key 5 (by decide)
 ·refine ⟨xLt n,?_,zI4 hn⟩
  unfold xLt
  cases Nat.ble n 1 with
  | true=>exact .inr (by decide)
  | false=>exact .inr (by decide)
theorem xC4 {a n p:Nat}:∀ (cs:List (Nat×Nat×Nat)) (k0 i:Nat) (q:PadD),(nM a n p k0 cs)[i]?=some q→∃ c,cs[i]?=some c∧q=if k0+i=p then zR9 a n (gU (k0+i) c.1 c.2.1 c.2.2) else gU (k0+i) c.1 c.2.1 c.2.2
 | [],_,_,_,h=>by cases h
 | c :: cs,k0,0,q,h=>by
  refine ⟨c,rfl,?_⟩
  simp only [nM,List.getElem?_cons_zero,Option.some.injEq] at h
  rw [Nat.add_zero,← h]
  cases hb:Nat.beq k0 p with
  | true=>rw [if_pos (Nat.eq_of_beq_eq_true hb)]; rfl
  | false =>
   rw [if_neg (fun e=>by rw [e] at hb; rw [show Nat.beq p p=true from by rw [yH]; exact decide_eq_true rfl] at hb; cases hb)]
   rfl
 | c::cs,k0,i+1,q,h=>by
  simp only [nM,List.getElem?_cons_succ] at h
  obtain ⟨c',h1,h2⟩:=xC4 cs (k0+1) i q h
  refine ⟨c',h1,?_⟩
  rw [show k0+(i+1)=k0+1+i by omega]
  exact h2
theorem xVn:∀ (m i k:Nat) (q:PadD),(xE5 i m)[k]?=some q→q=yFs (i+k)
 | 0,_,_,_,h=>by cases h
 | m+1,i,0,q,h=>by cases h; rfl
 | m+1,i,k+1,q,h=>by
  rw [xVn m (i+1) k q h,show i+(k+1)=i+1+k by omega]
theorem xQf {a n p:Nat}:∀ (cs:List (Nat×Nat×Nat)) (k:Nat),(nM a n p k cs).map (·.nm)=xS8 a n p k cs.length
 | [],_=>rfl
 | c :: cs,k=>by
  have ih:=xQf (a:=a) (n:=n) (p:=p) cs (k+1)
  simp only [nM,List.map_cons,List.length_cons,xS8,ih]
  congr 1
  cases hb:Nat.beq k p with
  | false=>simp only [cond_false,Bool.and_false,gU]
  | true =>
   simp only [cond_true,Bool.and_true]
   match a with
   | 0=>rfl
   | 1=>rfl
   | 2=>rfl
   | 3=>rfl
   | 4=>rfl
   | 5=>rfl
   | 6=>rfl
   | _+7=>rfl
theorem xQg:∀ (m i:Nat),(xE5 i m).map (·.nm)=zJf i m
 | 0,_=>rfl
 | m+1,i=>by simp only [xE5,List.map_cons,zJf,xQg m (i+1),yFs]
theorem xG8 (a n p:Nat) (cs:List (Nat×Nat×Nat)):(psO a n p cs).map (·.nm)=rD cs.length a n p:=by
 unfold psO rD
 rw [List.map_append,xQf]
 cases Nat.beq a 8 with
 | true=>simp only [cond_true,xQg]
 | false=>rfl
theorem xNl (n p:Nat):∀ (cs:List (Nat×Nat×Nat)) (k:Nat),nM 0 n p k cs=kM k cs
 | [],_=>rfl
 | c::cs,k=>by
  simp only [nM,kM,xNl n p cs (k+1)]
  cases Nat.beq k p<;>rfl
theorem xNq {a:Nat} (ha:a=0∨9≤a) (n p:Nat) (cs:List (Nat×Nat×Nat)):psO a n p cs=kM 0 cs:=by
 have h8:Nat.beq a 8=false:=by rw [yH]; exact decide_eq_false (by omega)
 have h : ∀ (cs:List (Nat×Nat×Nat)) (k:Nat),nM a n p k cs=kM k cs:=fun cs=>by
  induction cs with
  | nil=>intro _; rfl
  | cons c cs ih =>
   intro k
   simp only [nM,kM,ih]
   congr 1
   cases Nat.beq k p with
   | false=>rfl
   | true =>
    rcases ha with rfl | ha
    ·rfl
    ·obtain ⟨b,rfl⟩:∃ b,a=b+9:=⟨a - 9,by omega⟩
     rfl
 unfold psO
 rw [h8,h,cond_false,List.append_nil]
theorem xQe {a:Nat} (ha:a≠1) (n p:Nat):∀ (m k:Nat),xS8 a n p k m=xS8 0 0 0 k m
 | 0,_=>rfl
 | m+1,k=>by
  have h1:Nat.beq a 1=false:=by rw [yH]; exact decide_eq_false ha
  simp only [xS8,xQe ha n p m (k+1),h1,Bool.false_and,show Nat.beq 0 1=false from rfl,cond_false]
theorem zC6 {a:Nat} (h1:a≠1) (h8:a≠8) (n p m:Nat):rD m a n p=rD m 0 0 0:=by
 have e8:Nat.beq a 8=false:=by rw [yH]; exact decide_eq_false h8
 simp only [rD,xQe h1,e8,show Nat.beq 0 8=false from rfl,cond_false]
theorem xVr {cs:List (Nat×Nat×Nat)} (h6:cs.length≤6) (hc:∀ c∈cs,gY c):∀ (k:Nat) (q:PadD),(kM 0 cs)[k]?=some q→PadK q 0:=fun k q h=>by
 rw [← xNl 0 99] at h
 obtain ⟨c,h1,h2⟩:=xC4 cs 0 k q h
 have hk:k<cs.length:=(List.getElem?_eq_some_iff.1 h1).1
 rw [h2,if_neg (by omega),Nat.zero_add]
 exact xAe (by omega) (hc c (List.mem_of_getElem? h1))
section
variable (D:xR2) (B:∀ v∈vars,xBr v.1 v.2=true) {cs:List (Nat×Nat×Nat)} {g:Nat} (h2:2≤cs.length) (h6:cs.length≤6) (hc:∀ c∈cs,gY c) (hg:(cs.length,g)∈vars)
include h2 in
theorem zAu:kM 0 cs≠[]:=fun e=>by
 have:=mE 0 cs
 rw [e] at this
 simp only [List.length_nil] at this
 omega
include D B h2 h6 hc hg in
theorem xLf {O:TypD} (hp:O.pads=⟨1,kM 0 cs⟩) (hgg:slV jP O.gates=gg0 g) {r:Bool} (hr:xA4 O.nm r):Agree O:=by
 have hb:=B _ hg
 unfold xBr at hb
 simp only [Bool.and_eq_true] at hb
 obtain ⟨b1,b2,_⟩:=hb
 have hl:O.pads.l.length=cs.length:=by rw [hp]; exact mE 0 cs
 have hne:O.pads.l≠[]:=by rw [hp]; exact zAu h2
 have hkd:O.pads.kind=1:=by rw [hp]
 have hk:∀ (k:Nat) (q:PadD),O.pads.l[k]?=some q→PadK q 0:=by rw [hp]; exact xVr h6 hc
 have hnm:qN O=rD cs.length 0 0 0:=by
  rw [qN,hp,← xG8,xNq (.inl rfl)]
 cases r with
 | true=>exact xLe D hl h6 hne hkd hk hr (by rw [hnm,hgg]; exact b1)
 | false=>exact xCt (by omega) (.inl ⟨hne,hkd⟩) (e:=2) (by decide) (r:=false) (cl:=zeros (rD cs.length 0 0 0)) (by rw [hnm,hgg]; exact b2) hr (xD8 _) (xG5 hk 2 _)
include D B h2 h6 hc hg in
theorem zU4:Agree (xBp xBh cs (xMx g)):=xLf D B h2 h6 hc hg rfl rfl nU
include D h6 in
theorem xPg {O:TypD} (hl:O.pads.l.length=cs.length) (hne:O.pads.l≠[]) (hkd:O.pads.kind=1) (hk:∀ (k:Nat) (q:PadD),O.pads.l[k]?=some q→PadK q 0) (hr:xA4 O.nm true) (hv:xHc cs.length (qN O) (slV jP O.gates)=true):Agree O:=by
 unfold xHc at hv
 rw [Bool.or_eq_true] at hv
 rcases hv with hv | hv
 ·exact xLe D hl h6 hne hkd hk hr hv
 ·exact xOu (by omega) (.inl ⟨hne,hkd⟩) hk hr hv
include D B h2 h6 hc hg in
theorem zBg {a n p:Nat} (ha:a<14) (hn:n<8) (hpm:p<cs.length) {gs:Sl GateD} (hk:kO cs.length g a n p (slV jP gs)=true):Agree (tyO a n p cs gs):=by
 have hne:=zAu (cs:=cs) h2
 have keep:∀ {a:Nat},a=0∨9≤a→(tyO a n p cs gs).pads=⟨1,kM 0 cs⟩:=fun {a} h=>by
  have h7:Nat.beq a 7=false:=by rw [yH]; exact decide_eq_false (by omega)
  simp only [tyO,h7,cond_false,xNq h]
 have late:∀ {a:Nat},9≤a→xHc cs.length (rD cs.length a n p) (slV jP gs)=true→Agree (tyO a n p cs gs):=fun {a} h hv=>by
  have hp:=keep (.inr h)
  have hnm:qN (tyO a n p cs gs)=rD cs.length a n p:=by
   rw [qN,hp,← xG8,xNq (.inr h)]
  have hr:xA4 (tyO a n p cs gs).nm true:=by
   obtain ⟨b,rfl⟩:∃ b,a=b+1:=⟨a - 1,by omega⟩
   exact nU
  exact xPg D h6 (by rw [hp]; exact mE 0 cs) (by rw [hp]; exact hne) (by rw [hp]) (by rw [hp]; exact xVr h6 hc) hr (by rw [hnm]; exact hv)
 have odd:∀ a∈[2,3,4,5,6],AV.beq (slV jP gs) (gg0 g)=true→Agree (tyO a n p cs gs):=fun a ha hv=>by
  have hgg:=AV.beq_eq _ _ hv
  have hb:=B _ hg
  unfold xBr at hb
  simp only [Bool.and_eq_true] at hb
  obtain ⟨b1,b2,b3⟩:=hb
  obtain ⟨c,hcp⟩:∃ c,cs[p]?=some c:=⟨_,List.getElem?_eq_getElem hpm⟩
  obtain ⟨e,he,hE⟩:=zRb ha hn (show p<6 by omega) (hc c (List.mem_of_getElem? hcp))
  have ha1:a≠1:=by rintro rfl; revert ha; decide
  have ha7:a≠7:=by rintro rfl; revert ha; decide
  have ha8:a≠8:=by rintro rfl; revert ha; decide
  have h7:Nat.beq a 7=false:=by rw [yH]; exact decide_eq_false ha7
  have hp:(tyO a n p cs gs).pads=⟨1,psO a n p cs⟩:=by simp only [tyO,h7,cond_false]
  have hl:(tyO a n p cs gs).pads.l.length=cs.length:=by
   rw [hp]
   have h8:Nat.beq a 8=false:=by rw [yH]; exact decide_eq_false ha8
   have:=xG6 a n p cs
   rw [zC9,h8] at this
   exact this
  have hne':(tyO a n p cs gs).pads.l≠[]:=fun e=>by rw [e] at hl; simp only [List.length_nil] at hl; omega
  have hnm:qN (tyO a n p cs gs)=rD cs.length 0 0 0:=by
   rw [qN,hp,xG8,zC6 ha1 ha8]
  have hr:xA4 (tyO a n p cs gs).nm true:=by
   obtain ⟨b,rfl⟩:∃ b,a=b+1:=⟨a - 1,by
    have:a≠0:=by rintro rfl; revert ha; decide
    omega⟩
   exact nU
  have hpk:∀ (k:Nat) (q:PadD),(tyO a n p cs gs).pads.l[k]?=some q→PadK q (if k=p then e else 0):=fun k q hq=>by
   rw [hp] at hq
   have h8:Nat.beq a 8=false:=by rw [yH]; exact decide_eq_false ha8
   have hq':(nM a n p 0 cs)[k]?=some q:=by
    unfold psO at hq
    rw [h8,cond_false,List.append_nil] at hq
    exact hq
   obtain ⟨c',k1,k2⟩:=xC4 cs 0 k q hq'
   rw [Nat.zero_add] at k2
   by_cases hkp:k=p
   ·rw [if_pos hkp] at k2 ⊢
    subst hkp
    rw [hcp] at k1
    cases k1
    rw [k2]
    exact hE
   ·rw [if_neg hkp] at k2 ⊢
    have hk':k<cs.length:=(List.getElem?_eq_some_iff.1 k1).1
    rw [k2]
    exact xAe (by omega) (hc c' (List.mem_of_getElem? k1))
  rcases he with rfl | he
  ·exact xLe D hl h6 hne' (by rw [hp]) (fun k q hq=>by have:=hpk k q hq; rwa [ite_self] at this) hr (by rw [hnm]; show zIi _ _ (slV jP gs)=true; rw [hgg]; exact b1)
  ·have hrow:=List.all_eq_true.1 b3 p (zAc hpm)
   refine xCt (by omega) (.inl ⟨hne',by rw [hp]⟩) he (r:=true) (cl:=xTe p (rD cs.length 0 0 0)) (by rw [hnm]; show xLp _ (slV jP gs) _ _ _=true; rw [hgg]; exact hrow) hr (zBj _ _) (fun t ht k q x hq hx => ?_)
   have:=hpk k q hq
   rw [xLg _ _ _ _ hx]
   by_cases hkp:k=p
   ·rw [if_pos hkp] at this ⊢
    exact ⟨e,by simp only [AV.subst,ht],this⟩
   ·rw [if_neg hkp] at this ⊢
    exact ⟨0,rfl,this⟩
 match a,ha,hk with
 | 0,_,hk=>exact xLf D B h2 h6 hc hg (keep (.inl rfl)) (AV.beq_eq _ _ hk) (zS6 hn)
 | 1, _,hk =>
  have hnm:qN (tyO 1 n p cs gs)=rD cs.length 1 n p:=xG8 1 n p cs
  have hl:(tyO 1 n p cs gs).pads.l.length=cs.length:=xG6 1 n p cs
  refine xPg D h6 hl (fun e=>by rw [e] at hl; simp only [List.length_nil] at hl; omega) rfl (fun k q hq => ?_) nU (by rw [hnm]; exact hk)
  have hq':(nM 1 n p 0 cs)[k]?=some q:=by
   have:psO 1 n p cs=nM 1 n p 0 cs:=List.append_nil _
   rw [← this]
   exact hq
  obtain ⟨c',k1,k2⟩:=xC4 cs 0 k q hq'
  have hk':k<cs.length:=(List.getElem?_eq_some_iff.1 k1).1
  rw [Nat.zero_add] at k2
  rw [k2]
  split
  ·exact zC3 (by omega) (hc c' (List.mem_of_getElem? k1))
  ·exact xAe (by omega) (hc c' (List.mem_of_getElem? k1))
 | 2,_,hk=>exact odd 2 (by decide) hk
 | 3,_,hk=>exact odd 3 (by decide) hk
 | 4,_,hk=>exact odd 4 (by decide) hk
 | 5,_,hk=>exact odd 5 (by decide) hk
 | 6,_,hk=>exact odd 6 (by decide) hk
 | 7,_,hk=>exact xCt (T:=tyO 7 n p cs gs) (Nat.zero_le _) (.inr ⟨rfl,rfl⟩) (e:=2) (by decide) (r:=true) (cl:=[]) hk nU (fun _ h=>absurd h List.not_mem_nil) (fun _ _ k _ _ _ h=>by cases k<;>cases h)
 | 8, _,hk =>
  have hnm:qN (tyO 8 n p cs gs)=rD cs.length 8 n p:=xG8 8 n p cs
  have hl:(tyO 8 n p cs gs).pads.l.length=cs.length+(19+n):=xG6 8 n p cs
  have hkp:∀ (k:Nat) (q:PadD),(tyO 8 n p cs gs).pads.l[k]?=some q→PadK q 0:=fun k q hq=>by
   have hq':(nM 8 n p 0 cs++xE5 0 (19+n))[k]?=some q:=hq
   by_cases hk':k<(nM 8 n p 0 cs).length
   ·rw [List.getElem?_append_left hk'] at hq'
    obtain ⟨c',k1,k2⟩:=xC4 cs 0 k q hq'
    have hk2:k<cs.length:=(List.getElem?_eq_some_iff.1 k1).1
    rw [Nat.zero_add] at k2
    rw [k2]
    split
    ·exact xAe (by omega) (hc c' (List.mem_of_getElem? k1))
    ·exact xAe (by omega) (hc c' (List.mem_of_getElem? k1))
   ·rw [List.getElem?_append_right (by omega)] at hq'
    rw [xVn _ _ _ _ hq']
    exact yFy _
  have hI:=xQy (T:=tyO 8 n p cs gs) (by omega) (.inl ⟨fun e=>by rw [e] at hl; simp only [List.length_nil] at hl; omega,rfl⟩)
  obtain ⟨b1,b2,e1,e2,_,_,_,F1,F2⟩:=xHn hI (e:=2) (by decide) (r:=true) (cl:=zeros (rD cs.length 8 n p)) (p:=zGx) (by rw [hnm]; exact hk) nU.1 nU.2 (xD8 _) (xG5 hkp 2 _)
  exact xWj F1 F2 (by omega)
 | 9,_,hk=>exact late (by decide) hk
 | 10,_,hk=>exact late (by decide) hk
 | 11,_,hk=>exact late (by decide) hk
 | 12,_,hk=>exact late (by decide) hk
 | 13,_,hk=>exact late (by decide) hk
end
end Go.Abs.Sym
end
section
namespace Go.Abs.Sym
open Go.Abs.T
open Go.Proofs
theorem zZi {X:Ctx} {T O:TypD} {A B R:Sl (List Nat)} {cs:List AV} {z1 A1 B1 z2 A2 B2:List Nat} {p1 p2:Bool}
  (hT:∀ L,L=A∨L=B∨L=R→AllA X T A L z1 A1 B1 p1 z2 A2 B2 p2) (hO:∀ L,L=A∨L=B∨L=R→AllA X O A L z1 A1 B1 p1 z2 A2 B2 p2) (hS:SmA X) (hfu:X.fuel=100000)
  (cW:∀ h,xC X 59 (.fn t12 [] []) [.agg cs,.agg (tyC T)] h=.ret (.agg (swC z1 A1 B1 p1)) h) (hcs:cs.length=9)
  {fr0:Tr AV} {t0:Tr AB} {m0 q42:Nat} {cp:Option Nat} (g3:fr0.get t3=some (.ptr (up .e 0) 0)) (a3:t0.get (up .e 0)=some (.cells cs false)) (g5:fr0.get t5=some (.ptr (up .e 1) 0)) (a5:t0.get (up .e 1)=some (.cells (swC z2 A2 B2 p2) false))
  (g8:fr0.get t8=some (.ptr (up .e 2) 0)) (a8:t0.get (up .e 2)=some (.cells (tyC T) false)) (n2:2<m0) (g9:fr0.get t9=some (slV xN A)) (g10:fr0.get t10=some (slV xN B)) (g1:fr0.get t1=some (slV xN R))
  (g42:fr0.get t42=some (.slc (up .e q42) 0 2 3 cp)) (n42:q42<m0) (a42:t0.get (up .e q42)=some (.cells (tyC T++tyC O) false)) (g43:fr0.get t43=some (.int .i64 (.ofNat 2))) (g44:fr0.get t44=some (.int .i64 (.ofNat 0))) :
  ∃ s,jQ (xF X (xC X 59) c3_l2) 100000 ⟨fr0,[],⟨up .e m0,t0,.lf⟩,.no,none,t3⟩=.exit 0 s∧OuI fr0 t0 m0 0 s :=
 kW (OuI fr0 t0 m0) (fun o=>∃ s,o=.exit 0 s∧OuI fr0 t0 m0 0 s) (fun r s h=>zRj hT hO hS hfu cW hcs g3 a3 g5 a5 g8 a8 n2 g9 g10 g1 g42 n42 a42 g43 r s h) 100000 2 _ ⟨fr0,m0,t0,0,rfl,rfl,Nat.le_refl _,fun _ _=>rfl,g44,fun _ _=>rfl⟩ (by decide)
theorem zFj {α:Type} {f:α→List AV} {sz:Nat} (hf:∀ a,(f a).length=sz) {kd:Nat} {l:List α} (hl:l≠[]) {k:Nat} (hk:k≤l.length):dI (.slc sz) false true false [slV f ⟨kd,l⟩,.int .i64 (.ofNat k)]=some (slV f ⟨1,l.take k⟩):=by
 have e1:slV f ⟨kd,l⟩=.rslc l.length (l.flatMap f):=by
  cases l with
  | nil=>exact absurd rfl hl
  | cons a l=>rfl
 have e2:slV f ⟨1,l.take k⟩=.rslc k ((l.flatMap f).take (k*sz)):=by
  have e3:(l.flatMap f).take (k*sz)=(l.take k).flatMap f:=by
   conv=>lhs; rw [← List.take_append_drop k l,List.flatMap_append]
   exact List.take_left' (by rw [xN2 hf,List.length_take,Nat.min_eq_left hk])
  have e4:(l.take k).length=k:=by rw [List.length_take,Nat.min_eq_left hk]
  rw [e3]
  cases hq:l.take k with
  | nil=>rw [hq] at e4; subst e4; rfl
  | cons a l'=>rw [hq] at e4; rw [← e4]; rfl
 have hb:pE (.ofNat k) l.length=some k:=by
  have h1:leI (.ofNat 0) (.ofNat k)=true:=rfl
  have h2:leI (.ofNat k) (.ofNat l.length)=true:=Nat.ble_eq_true_of_le hk
  simp only [pE]
  rw [show leI 0 (.ofNat k)=true from h1,h2]
  rfl
 rw [e1,e2]
 simp only [dI,kT,Option.getD_none,hb,Nat.sub_zero,Nat.zero_mul,List.drop_zero]
theorem sl8 (L:Sl (List Nat)):∃ R:Sl (List Nat),dI (.slc 1) false true false [slV xN L,.int .i64 (.ofNat (min L.l.length 8))]=some (slV xN R)∧R.l.length≤8:=by
 obtain ⟨kd,l⟩:=L
 cases l with
 | nil =>
  cases kd with
  | zero=>exact ⟨⟨0,[]⟩,rfl,by decide⟩
  | succ k=>exact ⟨⟨1,[]⟩,rfl,by decide⟩
 | cons a l =>
  refine ⟨⟨1,(a::l).take (min (a::l).length 8)⟩,zFj rW (List.cons_ne_nil _ _) (Nat.min_le_left _ _),?_⟩
  simp only [List.length_take]
  omega
theorem zJ3 (a b:Nat):(bif ltI (.ofNat b) (.ofNat a) then Int.ofNat b else .ofNat a)=.ofNat (min a b):=by
 rw [qV]
 by_cases h:b<a
 ·rw [decide_eq_true h,Nat.min_eq_right (by omega)]; rfl
 ·rw [decide_eq_false h,Nat.min_eq_left (by omega)]; rfl
theorem yNo (n:Nat):xE1 xJz (.int .i64 (.ofNat n)) [i8]=some (.int .i64 (.ofNat (min n 8))):=by
 have e:xE1 xJz (.int .i64 (.ofNat n)) [i8]=some (.int .i64 (bif ltI (.ofNat 8) (.ofNat n) then .ofNat 8 else .ofNat n)):=rfl
 rw [e,zJ3]
theorem pne {a b:Pth} (h:Pth.beq a b=false):¬ a=b:=fun e=>by
 rw [Pth.beq_iff.2 e] at h
 cases h
theorem xHq {K:Ctx} (l:@Lev yU K) {f:Pth} {al:List AV} {v:AV} (h:∀ h,K.sums f al h=some v):zP f al v:=fun X ρ hh w avs hr hv=>@Lev.sums yU K l X f al hh v (h hh) ρ w avs hr hv
def xCf (T O:TypD) (o0 o1 o2:Int):Pth→List AV→H→Option AV:=wY t6 [.agg (tyC T),.agg [.int .i64 o0,.int .i64 o1,.int .i64 o2]] (.agg (tyC O)) K5.sums
noncomputable def KL (T O:TypD) (o0 o1 o2:Int):Ctx:={ K5 with sums:=pI t7 t8 (fun _ v=>xWd v) (pI t10 t11 (fun _ v=>∃ b:Bool,v=.bool b) (pI t13 t14 (fun _ v=>xOr v) (xCf T O o0 o1 o2))) }
section
variable {T O:TypD} {o0 o1 o2:Int} (hO:zP t6 [.agg (tyC T),.agg [.int .i64 o0,.int .i64 o1,.int .i64 o2]] (.agg (tyC O)))
include hO in
theorem yNg:@XOK yU Tryz.prog (KL T O o0 o1 o2):=@XOK.mk yU _ _ mixed kV (mT (envI:=yU)) (xNn (xNn (xNn (xQ3 hO (@Lev.sums yU _ (@yR3 yU) _)))))
theorem zIp {i:Pth} (h1:Pth.beq i t7=false) (h2:Pth.beq i t8=false) (h3:Pth.beq i t10=false) (h4:Pth.beq i t11=false) (h5:Pth.beq i t13=false) (h6:Pth.beq i t14=false) (al:List AV) (h:H) :
  (KL T O o0 o1 o2).sums i al h=xCf T O o0 o1 o2 i al h :=
 by
 show pI t7 t8 (fun _ v=>xWd v) (pI t10 t11 (fun _ v=>∃ b:Bool,v=.bool b) (pI t13 t14 (fun _ v=>xOr v) (xCf T O o0 o1 o2))) i al h=_
 rw [rF (pne h1) (pne h2),rF (pne h3) (pne h4),rF (pne h5) (pne h6)]
theorem yF9 {i:Pth} (h1:Pth.beq i t7=false) (h2:Pth.beq i t8=false) (al:List AV) (h:H):(KL T O o0 o1 o2).sums i al h=pI t10 t11 (fun _ v=>∃ b:Bool,v=.bool b) (pI t13 t14 (fun _ v=>xOr v) (xCf T O o0 o1 o2)) i al h:=by
 show pI t7 t8 (fun _ v=>xWd v) (pI t10 t11 (fun _ v=>∃ b:Bool,v=.bool b) (pI t13 t14 (fun _ v=>xOr v) (xCf T O o0 o1 o2))) i al h=_
 rw [rF (pne h1) (pne h2)]
theorem yNh {i:Pth} (h1:Pth.beq i t7=false) (h2:Pth.beq i t8=false) (h3:Pth.beq i t10=false) (h4:Pth.beq i t11=false) (al:List AV) (h:H):(KL T O o0 o1 o2).sums i al h=pI t13 t14 (fun _ v=>xOr v) (xCf T O o0 o1 o2) i al h:=by
 rw [yF9 h1 h2,rF (pne h3) (pne h4)]
theorem zIn {i:Pth} (h1:Pth.beq i t7=false) (h2:Pth.beq i t8=false) (h3:Pth.beq i t10=false) (h4:Pth.beq i t11=false) (h5:Pth.beq i t13=false) (h6:Pth.beq i t14=false) (h7:Pth.beq i t6=false) (al:List AV) (h:H) :
  (KL T O o0 o1 o2).sums i al h=K5.sums i al h:=by
 rw [zIp h1 h2 h3 h4 h5 h6]
 simp only [xCf,wY,h7,Bool.false_and,cond_false]
theorem zIo {x:TypD} (ha:Agree x) {A L:Sl (List Nat)} (hA:A.l.length≤8) (hL:L.l.length≤8) (z1 A1 B1 z2 A2 B2:List Nat) (p1 p2:Bool):AllA (KL T O o0 o1 o2) x A L z1 A1 B1 p1 z2 A2 B2 p2:=by
 have sw:∀ z a b q,SwA (KL T O o0 o1 o2) x L z a b q:=fun z a b q=>by
  obtain ⟨v,⟨P,e,hP,rfl⟩,h⟩:=xNm (f:=t13) (g:=t14) (G:=fun _ v=>xOr v) (xCf T O o0 o1 o2) (ha.swp L hL z a b q)
  refine ⟨P,e,hP,fun hh=>qF ?_,fun hh=>qF ?_⟩
  ·rw [List.nil_append,List.append_nil]
   rw [yNh rfl rfl rfl rfl]
   exact (h hh).1
  ·rw [List.nil_append,List.append_nil]
   rw [yNh rfl rfl rfl rfl]
   exact (h hh).2
 refine ⟨?_,?_,sw z1 A1 B1 p1,sw z2 A2 B2 p2⟩
 ·obtain ⟨v,⟨P,b,hP,rfl⟩,h⟩:=xNm (f:=t7) (g:=t8) (G:=fun _ v=>xWd v) (pI t10 t11 (fun _ v=>∃ b:Bool,v=.bool b) (pI t13 t14 (fun _ v=>xOr v) (xCf T O o0 o1 o2))) (ha.can L hL)
  exact ⟨P,b,hP,fun hh=>qF (by rw [List.nil_append,List.append_nil]; exact (h hh).1),fun hh=>qF (by rw [List.nil_append,List.append_nil]; exact (h hh).2)⟩
 ·obtain ⟨b0,k1,k2⟩:=xWl ha hA hL
  obtain ⟨v,⟨b,rfl⟩,h⟩:=xNm (f:=t10) (g:=t11) (G:=fun _ v=>∃ b:Bool,v=.bool b) (pI t13 t14 (fun _ v=>xOr v) (xCf T O o0 o1 o2)) ⟨_,⟨b0,rfl⟩,k1,k2⟩
  refine ⟨b,fun hh=>qF ?_,fun hh=>qF ?_⟩
  ·rw [List.nil_append,List.append_nil]
   rw [yF9 rfl rfl]
   exact (h hh).1
  ·rw [List.nil_append,List.append_nil]
   rw [yF9 rfl rfl]
   exact (h hh).2
theorem zZ0:SmA (KL T O o0 o1 o2):=fun P hP h=>qF (by
 rw [List.nil_append,List.append_nil,zIn rfl rfl rfl rfl rfl rfl rfl]
 exact ((xQk (X:=K3) rfl rfl _ h).trans (xQk (X:=K2) rfl rfl _ h)).trans (xY5 P hP h))
end
theorem zBp (c:CaseD) (hc:xHh c) (T:TypD) (h0p:0<T.pads.l.length) (hl:T.pads.l.length<90000):∃ a b:List Nat,∀ h,K5.sums t12 [.agg (dK c),.agg (tyC T)] h=some (.agg (swC [] a b c.gate)):=by
 obtain ⟨v,h1,hcall,i,j,p,q,hp,hq,rfl⟩:=yDs c hc T h0p hl
 exact ⟨p.nm,q.nm,fun h=>xAp rfl hcall (by simp only [frzs,frz,xUr,vR,Bool.and_self]) rfl h⟩
structure AllRows:Prop where
 db:xR2
 base:∀ v∈vars,xBr v.1 v.2=true
 odd:∀ v∈vars,∀ a n p,a<14→n<8→p<v.1→xNh v.1 v.2 a (nE' a n) (pE' a p)=true
theorem yDq (c:CaseD):(dK c).length=9:=rfl
set_option maxHeartbeats 1000000 in
theorem xX9 (W:AllRows) (c:CaseD) (hc:xHh c) (raw:Sl (List Nat)) (z A B:List Nat) (q:Bool) :
  ∃ X:Ctx,@XOK yU Tryz.prog X∧X.globs=.lf∧(∀ xs,X.sums t3 xs h0=none)∧(∃ F,X.funcs.get t3=some F)∧Ret (xC X 60 (.fn t3 [] []) [.agg (dK c),slV xN raw,.agg (swC z A B q)] h0) (fun v _=>v=.bool true):=by
 obtain ⟨cs,gs,n1,n2,k2,k6,hcs,hgs,f1,f2,f3,f4,hmade⟩:=zBy c hc
 obtain ⟨g,hg,rfl⟩:=yAq k2 k6 hgs
 have hne:cs≠[]:=fun e=>by
  rw [e] at k2
  exact absurd k2 (by decide)
 have hlT:(xBp xBh cs (xMx g)).pads.l.length=cs.length:=mE 0 cs
 obtain ⟨a,ha,m0⟩:=xL2 c.o0 (m:=14) (by decide) (by decide)
 obtain ⟨n,hn,m1⟩:=xL2 c.o1 (m:=8) (by decide) (by decide)
 obtain ⟨p,hp,m2⟩:=xL2 c.o2 (m:=cs.length) (by omega) (by omega)
 have lv1:@Lev yU K1:=@Lev.over yU _ (@zBx yU) _ _
 obtain ⟨og,hk,FO⟩:=zRa hne k6 hn rfl rfl (W.odd _ hg a n p ha hn hp) (xHq lv1 m0) (xHq lv1 m1) (xHq lv1 m2)
 have AT:=zU4 W.db W.base k2 k6 hcs hg
 have AO:=zBg W.db W.base k2 k6 hcs hg ha (yNp hn) (yNt hp) hk
 obtain ⟨sa,sb,hsw⟩:=zBp c hc (xBp xBh cs (xMx g)) (by omega) (by omega)
 obtain ⟨R,hs1,hR⟩:=sl8 raw
 generalize tyO a (nE' a n) (pE' a p) cs og=O at FO AO
 have hmade':∀ h,K5.sums t5 [.agg (dK c)] h=some (.tup [.agg (tyC (xBp xBh cs (xMx g))),slV xN ⟨1,n1.map xAm⟩,slV xN ⟨1,n2.map xAm⟩]):=hmade
 generalize hT:xBp xBh cs (xMx g)=T at FO AT hsw hmade'
 have hA:(⟨1,n1.map xAm⟩:Sl (List Nat)).l.length≤8:=by simp only [List.length_map]; omega
 have hB:(⟨1,n2.map xAm⟩:Sl (List Nat)).l.length≤8:=by simp only [List.length_map]; omega
 generalize (⟨1,n1.map xAm⟩:Sl (List Nat))=LA at hmade' hA
 generalize (⟨1,n2.map xAm⟩:Sl (List Nat))=LB at hmade' hB
 have hAllT:∀ L,L=LA∨L=LB∨L=R→AllA (KL T O c.o0 c.o1 c.o2) T LA L [] sa sb c.gate z A B q:=fun L hL=>zIo AT hA (by rcases hL with rfl | rfl | rfl<;>assumption) _ _ _ _ _ _ _ _
 have hAllO:∀ L,L=LA∨L=LB∨L=R→AllA (KL T O c.o0 c.o1 c.o2) O LA L [] sa sb c.gate z A B q:=fun L hL=>zIo AO hA (by rcases hL with rfl | rfl | rfl<;>assumption) _ _ _ _ _ _ _ _
 have hSm:SmA (KL T O c.o0 c.o1 c.o2):=zZ0
 have cW:∀ h,xC (KL T O c.o0 c.o1 c.o2) 59 (.fn t12 [] []) [.agg (dK c),.agg (tyC T)] h=.ret (.agg (swC [] sa sb c.gate)) h:=fun h=>qF (by
  rw [List.nil_append,List.append_nil,zIn rfl rfl rfl rfl rfl rfl rfl]; exact hsw h)
 have c4:∀ h,xC (KL T O c.o0 c.o1 c.o2) 59 (.fn t4 [] []) [] h=.ret (.bool true) h:=fun h=>qF (by
  rw [List.nil_append,zIn rfl rfl rfl rfl rfl rfl rfl]; kernel_rfl)
 have c5':∀ h,xC (KL T O c.o0 c.o1 c.o2) 59 (.fn t5 [] []) [.agg (dK c)] h=.ret (.tup [.agg (tyC T),slV xN LA,slV xN LB]) h:=fun h=>qF (by
  rw [List.nil_append,List.append_nil,zIn rfl rfl rfl rfl rfl rfl rfl]; exact hmade' h)
 have c6':∀ h,xC (KL T O c.o0 c.o1 c.o2) 59 (.fn t6 [] []) [.agg (tyC T),.agg [.int .i64 c.o0,.int .i64 c.o1,.int .i64 c.o2]] h=.ret (.agg (tyC O)) h:=fun h=>qF (by
  rw [List.nil_append,List.append_nil,zIp rfl rfl rfl rfl rfl rfl]
  simp only [xCf,wY,Pth.beq_rfl,nF,Bool.and_self,cond_true])
 have hsN:∀ xs,(KL T O c.o0 c.o1 c.o2).sums t3 xs h0=none:=fun xs=>by rw [zIn rfl rfl rfl rfl rfl rfl rfl]; rfl
 have hF:(KL T O c.o0 c.o1 c.o2).funcs.get t3=some c3:=rfl
 have hfu:(KL T O c.o0 c.o1 c.o2).fuel=100000:=rfl
 have xo:=yNg FO
 have hgl:(KL T O c.o0 c.o1 c.o2).globs=.lf:=rfl
 generalize KL T O c.o0 c.o1 c.o2=X at *
 refine ⟨X,xo,hgl,hsN,⟨_,hF⟩,?_⟩
 refine xLh (hsN _) hF fun fr t ga gb gc => ?_
 rw [c3_eq]
 have ga':=ga
 have gc':=gc
 have cW':=cW
 have hl9:=yDq c
 simp only [dK] at ga c5'
 simp only [swC] at gc
 simp only [tyC] at c5' c6'
 simp +decide only [yK,Nat.reduceAdd,Nat.reduceLeDiff,xLu,xLv,xW7,xVd,xHd,xOw,xOx,yQr,hfu,ga,gb,gc,c4,c5',c6',hs1,qD,yNo]
 generalize hit:jQ (xF X (xC X 59) c3_l2) 100000 _=o
 have hT1:∀ L,L=LA∨L=LB∨L=R→AllA X T LA L [] sa sb c.gate z A B q:=hAllT
 obtain ⟨s,rfl,fr',m',t',j',rfl,hj',hm',hk',g44',ht'⟩:∃ s,o=.exit 0 s∧OuI _ _ _ 0 s:=by
  rw [← hit]
  refine zZi hT1 hAllO hSm hfu cW' hl9 (q42:=8) (cp:=some 2) ?_ ?_ ?_ ?_ ?_ ?_ (by decide) ?_ ?_ ?_ ?_ (by decide) ?_ ?_ ?_
  ·simp +decide only [Tr.get_put,if_true,if_false]
  ·simp +decide only [Tr.get_put,if_true,if_false,dK]
  ·simp +decide only [Tr.get_put,if_true,if_false]
  ·simp +decide only [Tr.get_put,if_true,if_false,swC]
  ·simp +decide only [Tr.get_put,if_true,if_false]
  ·simp +decide only [Tr.get_put,if_true,if_false,tyC]
  ·simp +decide only [Tr.get_put,if_true,if_false]
  ·simp +decide only [Tr.get_put,if_true,if_false]
  ·simp +decide only [Tr.get_put,if_true,if_false]
  ·simp +decide only [Tr.get_put,if_true,if_false]
  ·simp +decide only [Tr.get_put,if_true,if_false,tyC,List.cons_append,List.nil_append]
  ·simp +decide only [Tr.get_put,if_true,if_false]
  ·simp +decide only [Tr.get_put,if_true,if_false]
 clear hit
 have e7:fr'.get t7=some (.bool true):=(hk' t7 (by simp [ksO])).trans (by simp +decide only [Tr.get_put,if_true,if_false])
 simp +decide only [yM,e7]
end Go.Abs.Sym
end
end
