/- Functions by contract: IndexByteString, that the model runs itself, and stringslite.Index, by the kit. -/
import Derived.Test.YtaendaokfclnoaaGreatDoorC16
import Derived.Test.YtaendaokfclnoaaGreatDoorC15
import Derived.Lib.Bytealg
import Derived.Shelf.Strings.Search2
import Derived.Laws.StandIn
noncomputable section
section
set_option maxRecDepth 10000
namespace Go.Abs.T
open Go.Proofs Go.Shelf
theorem zIm:∀ (l:List UInt8) (c:UInt8) (k:Nat),ixN k (l.map (·.toNat)) c.toNat=if Lib.indexByte l c = -1 then -1 else Lib.indexByte l c+k
 | [],c,k=>rfl
 | b :: l,c,k=>by
  have ih:=zIm l c (k+1)
  have hge:=Lib.indexByte_ge l c
  have hstep:Lib.indexByte (b::l) c=if b==c then 0 else if Lib.indexByte l c == -1 then -1 else Lib.indexByte l c+1:=rfl
  generalize Lib.indexByte (b::l) c=z at hstep ⊢
  subst hstep
  simp only [List.map_cons,ixN]
  by_cases hb:b=c
  ·subst hb
   have:Nat.beq b.toNat b.toNat=true:=by simp
   rw [this]
   simp
  ·have h1:Nat.beq b.toNat c.toNat=false:=by
    cases h:Nat.beq b.toNat c.toNat with
    | false=>rfl
    | true=>exact absurd (UInt8.toNat_inj.1 (Nat.eq_of_beq_eq_true h)) hb
   have h2:(b==c)=false:=by simpa using hb
   simp only [h1,h2,cond_false,Bool.false_eq_true,if_false,ih]
   by_cases hx:Lib.indexByte l c = -1
   ·simp [hx]
   ·have h3:(Lib.indexByte l c == -1)=false:=by simpa using hx
    simp only [h3,Bool.false_eq_true,if_false]
    rw [if_neg hx,if_neg (by omega)]
    omega
theorem zXe {c:Int} (hc:(leI 0 c&&ltI c 256)=true):(c.toNat.toUInt8).toNat=c.toNat:=by
 have h0:0≤c∧c<256:=by
  simp only [Bool.and_eq_true] at hc
  refine ⟨?_,?_⟩
  ·cases c<;>simp [leI] at hc ⊢
  ·have:=hc.2
   cases c with
   | ofNat m=>simp [ltI] at this; exact Int.ofNat_lt.2 this
   | negSucc m=>omega
 simp only [Nat.toUInt8,UInt8.toNat_ofNat']
 omega
theorem two_args [_envI:Env] {w:World} {ρ:Nm} {L:Nat→Prop} {s:List Nat} {k:IntKind} {c:Int} {avs:Array Value} (hv:VRs w ρ L [.str s,.int k c] avs.toList):∃ x:ByteArray,xP x=s∧avs = #[.string x,.int k c]:=by
 simp only [VRs,VR] at hv
 obtain ⟨u,us,e1,⟨x,rfl,hx⟩,u',us',rfl,rfl,rfl⟩:=hv
 exact ⟨x,hx,by apply Array.ext'; simpa using e1⟩
theorem yF7 [envI:Env] {X:Ctx} {ρ:Nm} {h:H} {w:World} (hr:HR Tryz.prog X ρ h w) {s:List Nat} {c:Int} {avs:Array Value} (hc:(leI 0 c&&ltI c 256)=true) (hv:VRs w ρ (Lv ρ h) [.str s,.int .u8 c] avs.toList) :
  mS Tryz.prog X ρ h w (callFunc 257 avs) (.ret (.int .i64 (ixN 0 s c.toNat)) h):=by
 obtain ⟨x,hx,havs⟩:=two_args hv
 have hrun:=run_callFunc_indexByte (P:=Tryz.prog) (f:=257) Tryz.func257 (by kernel_rfl) (by kernel_rfl) (by kernel_rfl) (by kernel_rfl) avs w
 rw [havs,Lib.run_indexByteString] at hrun
 rw [havs]
 refine ⟨_,w,hrun,.inl ⟨_,rfl,ρ,hr,Sim.refl ..,?_⟩⟩
 have:=zIm x.data.toList c.toNat.toUInt8 0
 rw [zXe hc] at this
 simp only [VR]
 rw [← hx]
 simp only [xP] at this ⊢
 rw [this]
 by_cases hm:Lib.indexByte x.data.toList c.toNat.toUInt8 = -1
 ·rw [if_pos hm,hm]
 ·rw [if_neg hm]; simp
theorem mS.of_calls [envI : Env] {P : Program} {X : Ctx} {ρ : Nm} {h : H} {w : World} {f : FuncId} {fn : Func} {body : Code} {avs : Array Value} {v : AV} {h' : H} (h1 : P.funcs[f]? = some fn) (h2 : fn.body = some body) (h3 : (fn.name == "runtime.NumGoroutine") = false)
  (hc:Calls P f avs w (fun e w'=>∃ vv,e=.returned vv∧vC P X ρ h w v h' vv w')):mS P X ρ h w (callFunc f avs) (.ret v h'):=by
 refine ⟨_,w,run_callFunc_enter (P:=P) h1 h2 h3 avs w,.inr ⟨_,rfl,fun c cs => ?_⟩⟩
 obtain ⟨e,w',fr,⟨vv,rfl,hB⟩,hcomes,_,hleave⟩:=hc (c::cs)
 exact ⟨vv,w',hB,Steps.trans hcomes (Steps.one (step_leave_returned hleave))⟩
def ixR:Ren:=⟨fun | 219=>154 | 217=>204 | 225=>158 | 224=>157 | 267=>205 | 266=>257 | 314=>258 | n=>n,fun | 9=>9 | 3=>3 | 4=>4 | 5=>5 | 46=>155 | 146=>283 | 51=>197 | n=>n,fun | 1=>0 | n=>n⟩
theorem ixL:Lays.n219 Tryz.prog ixR where
 mixed:=by kernel_rfl
 f217:=Tryz.func204.trans (congrArg some (by kernel_rfl))
 f219:=Tryz.func154.trans (congrArg some (by kernel_rfl))
 f224:=Tryz.func157.trans (congrArg some (by kernel_rfl))
 f225:=Tryz.func158.trans (congrArg some (by kernel_rfl))
 f266:=Tryz.func257.trans (congrArg some (by kernel_rfl))
 f267:=Tryz.func205.trans (congrArg some (by kernel_rfl))
 f314:=Tryz.func258.trans (congrArg some (by kernel_rfl))
 t3:=Tryz.underlying3
 a3:=Tryz.isAgg3
 z3:=Tryz.sizeOf3
 v3:=Tryz.zeroValue3
 t4:=Tryz.underlying4
 a4:=Tryz.isAgg4
 z4:=Tryz.sizeOf4
 v4:=Tryz.zeroValue4
 t5:=Tryz.underlying5
 a5:=Tryz.isAgg5
 z5:=Tryz.sizeOf5
 v5:=Tryz.zeroValue5
 t9:=Tryz.underlying9
 a9:=Tryz.isAgg9
 z9:=Tryz.sizeOf9
 v9:=Tryz.zeroValue9
 t46:=Tryz.underlying155
 a46:=Tryz.isAgg155
 z46:=Tryz.sizeOf155
 v46:=Tryz.zeroValue155
 t51:=Tryz.underlying197
 a51:=Tryz.isAgg197
 z51:=Tryz.sizeOf197
 v51:=Tryz.zeroValue197
 t146:=Tryz.underlying283
 a146:=Tryz.isAgg283
 z146:=Tryz.sizeOf283
 v146:=Tryz.zeroValue283
 g1:=by kernel_rfl
theorem xUz:∀ x y:List UInt8,xUy (x.map (·.toNat)) (y.map (·.toNat))=x.isPrefixOf y
 | [],_=>by simp [xUy]
 | _::_,[]=>rfl
 | a :: x,b::y=>by
  have ih:=xUz x y
  simp only [List.map_cons,xUy,List.isPrefixOf,ih]
  by_cases hb:a=b
  ·subst hb
   simp
  ·have h1:Nat.beq a.toNat b.toNat=false:=by
    cases h:Nat.beq a.toNat b.toNat with
    | false=>rfl
    | true=>exact absurd (UInt8.toNat_inj.1 (Nat.eq_of_beq_eq_true h)) hb
   have h2:(a==b)=false:=by simpa using hb
   rw [h1,h2]
theorem xQ5:∀ (l sub:List UInt8) (k:Nat),xI0 k (l.map (·.toNat)) (sub.map (·.toNat))=if Lib.index l sub = -1 then -1 else Lib.index l sub+k
 | [],sub,k=>by
  cases sub with
  | nil=>simp [xI0,Lib.index]
  | cons a l=>rfl
 | b :: l,sub,k=>by
  have ih:=xQ5 l sub (k+1)
  have hge:=Lib.index_ge l sub
  have hstep:Lib.index (b::l) sub=if sub.isPrefixOf (b::l) then 0 else if Lib.index l sub == -1 then -1 else Lib.index l sub+1:=rfl
  generalize Lib.index (b::l) sub=z at hstep ⊢
  subst hstep
  have hp:=xUz sub (b::l)
  simp only [List.map_cons] at hp
  simp only [List.map_cons,xI0,hp]
  cases sub.isPrefixOf (b::l) with
  | true=>simp
  | false =>
   simp only [cond_false,ih,Bool.false_eq_true,if_false]
   by_cases hx:Lib.index l sub = -1
   ·simp [hx]
   ·have h3:(Lib.index l sub == -1)=false:=by simpa using hx
    simp only [h3,Bool.false_eq_true,if_false]
    rw [if_neg hx,if_neg (by omega)]
    omega
theorem zIk [envI:Env] {X:Ctx} {ρ:Nm} {h:H} {w:World} (hr:HR Tryz.prog X ρ h w) {s sub:List Nat} (hs:s.length<4000000000) {avs:Array Value} (hv:VRs w ρ (Lv ρ h) [.str s,.str sub] avs.toList) :
  mS Tryz.prog X ρ h w (callFunc 154 avs) (.ret (.int .i64 (xI0 0 s sub)) h):=by
 simp only [VRs,VR] at hv
 obtain ⟨u,us,e1,⟨x,rfl,hx⟩,u',us',rfl,⟨y,rfl,hy⟩,rfl⟩:=hv
 have havs:avs = #[.string x,.string y]:=by apply Array.ext'; simpa using e1
 rw [havs]
 obtain ⟨⟨c,el,fz,vs,m,h1,h2⟩,_⟩:=hr.opn
 have hm:w.cell? ⟨0,0,none⟩=some (.int .i64 m):=by
  rw [cell_of_row w 0 0 c el fz h1]
  have:c.toList[0]?=some (.int .i64 m):=by rw [h2]; rfl
  simpa using this
 have hsz:x.size<4294967281:=by
  have:(xP x).length=x.size:=by simp only [xP,List.length_map]; rfl
  rw [hx] at this
  omega
 refine mS.of_calls Tryz.func154 rfl (by decide) ?_
 refine (Any.stringslite_Index ixL x y m w hsz hm).mono ?_
 rintro e w' ⟨rfl,rfl⟩
 refine ⟨_,rfl,ρ,hr,Sim.refl ..,?_⟩
 have:=xQ5 x.data.toList y.data.toList 0
 simp only [VR]
 rw [← hx,← hy]
 simp only [xP] at this ⊢
 rw [this]
 by_cases hq:Lib.index x.data.toList y.data.toList = -1
 ·rw [if_pos hq,hq]
 ·rw [if_neg hq]; simp
theorem mT [envI:Env] {X:Ctx} (i:Pth) (args:List AV) (h:H) (v:AV) (h':H) (he:exts i args h=some (v,h')) (ρ:Nm) (w:World) (avs:Array Value) (hr:HR Tryz.prog X ρ h w) (hv:VRs w ρ (Lv ρ h) args avs.toList):mS Tryz.prog X ρ h w (callFunc i.num avs) (.ret v h'):=by
 unfold exts at he
 cases hi:Pth.beq i yCy with
 | true =>
  have hi':i.num=257:=by rw [Pth.beq_iff.1 hi]; kernel_rfl
  rw [hi] at he
  simp only [cond_true] at he
  split at he
  ·rename_i s c
   cases hc:(leI 0 c&&ltI c 256) with
   | false=>rw [hc] at he; cases he
   | true =>
    rw [hc] at he
    cases he
    rw [hi']
    exact yF7 hr hc hv
  ·cases he
 | false =>
  rw [hi] at he
  simp only [cond_false] at he
  cases hi:Pth.beq i zA0 with
  | true =>
   have hi':i.num=154:=by rw [Pth.beq_iff.1 hi]; kernel_rfl
   rw [hi] at he
   simp only [cond_true] at he
   split at he
   ·rename_i s sub
    cases h0:Nat.blt s.length 4000000000 with
    | false=>rw [h0] at he; cases he
    | true =>
     rw [h0] at he
     cases he
     rw [hi']
     exact zIk hr (by simpa using h0) hv
   ·cases he
  | false=>rw [hi] at he; cases he
theorem kV (i : Pth) (F : AFunc) (h : funcs.get i = some F) : ∃ fn body,Tryz.prog.funcs[i.num]? = some fn ∧ fn.body = some body ∧ (fn.name == "runtime.NumGoroutine") = false ∧ nG Tryz.prog fn = some F := zU5 i F h i (by omega)
theorem mixed:Tryz.prog.follows .mixedOrders=true:=by kernel_rfl
theorem ok0 [envI:Env]:XOK Tryz.prog X0:=⟨mixed,kV,mT,kX⟩
end Go.Abs.T
end
section
section
namespace Go.Abs
theorem zAq {i j:Nat} (h:¬ pR i j=0):bQ≤i:=by
 unfold pR at h
 cases hb:Nat.ble bQ i with
 | true=>exact Nat.le_of_ble_eq_true hb
 | false=>rw [hb] at h; exact absurd rfl h
theorem xBz {i:Nat} (h:nX i=true):i<700000000:=by
 simp only [nX,Bool.and_eq_true] at h
 have:=Nat.le_of_ble_eq_true h.2
 have e:xHv=500000768:=rfl
 omega
theorem xAk {i:Nat} (h:mV i=true):i<700000000:=by
 simp only [mV,Bool.and_eq_true] at h
 have:=Nat.le_of_ble_eq_true h.2
 have e:bB=600000000:=rfl
 omega
theorem xSa {i:Nat} (h:i<700000000∨bQ≤i) {v:Value}:¬ (i=topI∧v.oneCell'=true∨i=xP0∧(∃ m:Int,v=.int .i64 m)∨wQ i=true∧v=.int .i64 (yD i)∨i=xLk∧(∃ m:Int,v=.int .i64 m ∧ -5000≤m∧m≤105000)∨i=xS9∧∃ m:Int,v=.int .i64 m∧0≤m):=by
 have e4:xLk=999999997:=rfl
 have e:topI=999999999:=rfl
 have e':xP0=999999998:=rfl
 have e2:bQ=2722258935367507707706996859454145691648:=rfl
 have e5:xS9=999999996:=rfl
 rintro (⟨h1,_⟩ | ⟨h1,_⟩ | ⟨h1,_⟩ | ⟨h1,_⟩ | ⟨h1,_⟩)
 ·omega
 ·omega
 ·have h2:=Nat.eq_of_beq_eq_true h1
  omega
 ·omega
 ·omega
abbrev yU:Env where
 R:=fun i _ _ _ v=>i=topI∧v.oneCell'=true∨i=xP0∧(∃ m:Int,v=.int .i64 m)∨wQ i=true∧v=.int .i64 (yD i)∨i=xLk∧(∃ m:Int,v=.int .i64 m ∧ -5000≤m∧m≤105000)∨i=xS9∧∃ m:Int,v=.int .i64 m∧0≤m
 bnd:=⟨fun h=>by
  rcases h with ⟨h,_⟩ | ⟨h,_⟩ | ⟨h,_⟩ | ⟨_,h⟩ | ⟨h,_⟩
  ·exact absurd h (by decide)
  ·exact absurd h (by decide)
  ·exact absurd h (by decide)
  ·exact h
  ·exact absurd h (by decide),fun h=>.inr (.inr (.inr (.inl ⟨rfl,h⟩)))⟩
 nng:=⟨fun h=>by
  rcases h with ⟨h,_⟩ | ⟨h,_⟩ | ⟨h,_⟩ | ⟨h,_⟩ | ⟨_,h⟩
  ·exact absurd h (by decide)
  ·exact absurd h (by decide)
  ·exact absurd h (by decide)
  ·exact absurd h (by decide)
  ·exact h,fun h=>.inr (.inr (.inr (.inr ⟨rfl,h⟩)))⟩
 pos:=fun _=>0
 posB:=fun _=>by omega
 aff:=fun {i w ρ L v} ha=>by
  have e:topI=999999999:=rfl
  have e':xP0=999999998:=rfl
  have h2:=Nat.eq_of_beq_eq_true ha
  rw [Int.zero_add]
  have e4:xLk=999999997:=rfl
  refine ⟨fun h => ?_,fun h=>.inr (.inr (.inl ⟨ha,h⟩))⟩
  have e5:xS9=999999996:=rfl
  rcases h with ⟨h,_⟩ | ⟨h,_⟩ | ⟨_,h⟩ | ⟨h,_⟩ | ⟨h,_⟩
  ·omega
  ·omega
  ·exact h
  ·omega
  ·omega
 mono:=fun _ _ h=>h
 relive:=fun _ _ _ h=>h
 frzG:=fun _ h=>h
 one:=fun h=>by
  rcases h with h | ⟨_,_,rfl⟩ | ⟨_,rfl⟩ | ⟨_,_,rfl,_⟩ | ⟨_,_,rfl,_⟩
  ·exact h.2
  ·rfl
  ·rfl
  ·rfl
  ·rfl
 top:=fun h=>.inl ⟨rfl,h⟩
 int:=⟨fun h=>by
  rcases h with ⟨h,_⟩ | ⟨_,h⟩ | ⟨h,_⟩ | ⟨h,_⟩ | ⟨h,_⟩
  ·exact absurd h (by decide)
  ·exact h
  ·exact absurd h (by decide)
  ·exact absurd h (by decide)
  ·exact absurd h (by decide),fun h=>.inr (.inl ⟨rfl,h⟩)⟩
 ord:=fun h hu _=>absurd hu (xSa (.inr (zAq h)))
 fre:=fun h hu _=>absurd hu (xSa (.inl (xBz h)))
 big:=fun h hu _=>absurd hu (xSa (.inl (xAk h)))
theorem xTa {i:Nat} (h:i<700000000∨bQ≤i) {w:World} {ρ:Nm} {L:Nat→Prop} {v:Value}:¬ @VR yU w ρ L (.sym i) v:=by
 simp only [VR]
 exact xSa h
theorem zTk {w:World} {ρ:Nm} {L:Nat→Prop}:∀ {a:AV} {v:Value},a.one=true→@VR yU w ρ L a v→v.oneCell'=true:=by
 intro a v ho h
 cases a<;>simp only [AV.one,Bool.false_eq_true] at ho
 all_goals
  simp only [VR] at h
  first
   | (subst h; rfl)
   | (obtain ⟨_,_,rfl,_,_⟩:=h; rfl)
   | (obtain ⟨_,rfl,_⟩:=h; rfl)
   | (obtain ⟨_,_,rfl⟩:=h; rfl)
   | (obtain ⟨_,rfl⟩:=h; rfl)
   | (obtain ⟨_,_,_,_,_,rfl,_⟩:=h; rfl)
   | (obtain ⟨_,_,_,rfl,_⟩:=h; rfl)
   | (obtain ⟨_,_,rfl,_⟩:=h; rfl)
   | exact Env.one (self:=yU) h
structure Toks where
 val:Nat→AV
 frz:∀ i,frz (val i)=true
 one:∀ i,(val i).one=true
 top:val topI=.sym topI
 int:val xP0=.sym xP0
 bnd:val xLk=.sym xLk
 nng:val xS9=.sym xS9
 pos:Nat→Int
 posB:∀ c,0≤pos c∧pos c≤100000
 aff:∀ i,wQ i=true→val i=.int .i64 (pos (xBt i)+yD i)
 ord:∀ i j,¬ pR i j=0→val i=.sym i∨∃ x y,val i=.str x∧val j=.str y∧xSw (pR i j) x y
 fre:∀ i,nX i=true→val i=.sym i∨∃ x,val i=.str x∧mI x (zXs i)=false
 big:∀ i,mV i=true→val i=.sym i∨∃ n:Int,2≤n∧val i=.int .i64 n
abbrev Toks.env (t:Toks):Env where
 R:=fun i w ρ L v=>@VR yU w ρ L (t.val i) v
 mono:=fun hs hb h=>VR.mono0 (envI:=yU) hs hb h
 relive:=fun a b c h=>VR.relive (envI:=yU) a b c h
 frzG:=fun hN h=>VR.frzG (envI:=yU) hN h (t.frz _)
 one:=fun h=>zTk (t.one _) h
 top:=fun h=>by rw [t.top]; exact .inl ⟨rfl,h⟩
 int:=by
  intro w ρ L v
  rw [t.int]
  exact Env.int (self:=yU)
 bnd:=by
  intro w ρ L v
  rw [t.bnd]
  exact Env.bnd (self:=yU)
 nng:=by
  intro w ρ L v
  rw [t.nng]
  exact Env.nng (self:=yU)
 pos:=t.pos
 posB:=t.posB
 aff:=fun {i w ρ L v} h=>by
  rw [t.aff i h]
  simp only [VR]
 ord := fun {i j w ρ L u v} h hu hv=>by
  rcases t.ord i j h with e | ⟨x,y,e1,e2,e3⟩
  ·rw [e] at hu; exact absurd hu (xTa (.inr (zAq h)))
  ·rw [e1] at hu
   rw [e2] at hv
   simp only [VR] at hu hv
   obtain ⟨a,rfl,ha⟩:=hu
   obtain ⟨b,rfl,hb⟩:=hv
   exact ⟨a,b,rfl,rfl,by rw [ha,hb]; exact e3⟩
 fre := fun {i w ρ L u v} h hu hv=>by
  rcases t.fre i h with e | ⟨x,e1,e2⟩
  ·rw [e] at hu; exact absurd hu (xTa (.inl (xBz h)))
  ·rw [e1] at hu hv
   simp only [VR] at hu hv
   obtain ⟨a,rfl,ha⟩:=hu
   obtain ⟨b,rfl,hb⟩:=hv
   exact ⟨a,b,rfl,rfl,by rw [ha,hb],by rw [ha]; exact e2⟩
 big := fun {i w ρ L u v} h hu hv=>by
  rcases t.big i h with e | ⟨n,e2,e1⟩
  ·rw [e] at hu; exact absurd hu (xTa (.inl (xAk h)))
  ·rw [e1] at hu hv
   exact ⟨n,e2,int_of (envI:=yU) hu,int_of (envI:=yU) hv⟩
mutual
def AV.subst (t:Toks):AV→AV
 | .sym i=>t.val i
 | .rptr cs=>.rptr (xK t cs)
 | .rslc n cs=>.rslc n (xK t cs)
 | .rmap ks vs=>.rmap (xK t ks) (xK t vs)
 | .fn f a b=>.fn f (xK t a) (xK t b)
 | .iface ty v=>.iface ty (v.subst t)
 | .agg cs=>.agg (xK t cs)
 | .tup cs=>.tup (xK t cs)
 | v=>v
def xK (t:Toks):List AV→List AV
 | []=>[]
 | v::vs=>v.subst t::xK t vs
end
section
variable {w:World} {ρ:Nm} {L:Nat→Prop} {t:Toks}
mutual
theorem dX:∀ (a:AV) (v:Value),@VR t.env w ρ L a v↔@VR yU w ρ L (a.subst t) v
 | .sym i,v=>by simp only [VR,AV.subst]; exact Iff.rfl
 | .rptr cs,v=>by
  have h:=fun vs=>xHk cs vs
  simp only [VR,AV.subst,h]
 | .rslc n cs,v=>by
  have h:=fun vs=>xHk cs vs
  have h0:cs=[]↔xK t cs=[]:=by cases cs<;>simp [xK]
  simp only [VR,AV.subst,h,h0]
 | .fn f a b,v=>by
  have h1:=fun vs=>pP a vs
  have h2:=fun vs=>pP b vs
  simp only [VR,AV.subst,h1,h2]
 | .rmap ks xs,v=>by
  have h1:=fun vs=>pP ks vs
  have h2:=fun vs=>pP xs vs
  simp only [VR,AV.subst,h1,h2]
 | .iface ty x,v=>by
  have h:=fun u=>dX x u
  simp only [VR,AV.subst,h]
 | .agg cs,v=>by
  have h:=fun vs=>pP cs vs
  simp only [VR,AV.subst,h]
 | .tup cs,v=>by
  have h:=fun vs=>pP cs vs
  simp only [VR,AV.subst,h]
 | .bool b,v=>by simp only [VR,AV.subst]
 | .int k n,v=>by simp only [VR,AV.subst]
 | .str s,v=>by simp only [VR,AV.subst]
 | .nilp,v=>by simp only [VR,AV.subst]
 | .ptr id off,v=>by simp only [VR,AV.subst]
 | .nils,v=>by simp only [VR,AV.subst]
 | .slc id off len sz cap,v=>by simp only [VR,AV.subst]
 | .eslc,v=>by simp only [VR,AV.subst]
 | .nilm,v=>by simp only [VR,AV.subst]
 | .mapv id,v=>by simp only [VR,AV.subst]
 | .nilf,v=>by simp only [VR,AV.subst]
 | .yield id,v=>by simp only [VR,AV.subst]
 | .nili,v=>by simp only [VR,AV.subst]
theorem xHk:∀ (al:List AV) (vs:List Value),@VRp t.env w ρ L al vs↔@VRp yU w ρ L (xK t al) vs
 | [],vs=>by simp only [VRp,xK]
 | a::al,vs=>by
  have h1:=fun u=>dX a u
  have h2:=fun us=>xHk al us
  simp only [VRp,xK,h1,h2]
theorem pP:∀ (al:List AV) (vs:List Value),@VRs t.env w ρ L al vs↔@VRs yU w ρ L (xK t al) vs
 | [],vs=>by simp only [VRs,xK]
 | a::al,vs=>by
  have h1:=fun u=>dX a u
  have h2:=fun us=>pP al us
  simp only [VRs,xK,h1,h2]
end
end
mutual
theorem xHw (t:Toks):∀ a:AV,frz a=true→frz (a.subst t)=true
 | .sym i,_=>by simp only [AV.subst]; exact t.frz i
 | .rptr cs,h=>by simp only [AV.subst,frz] at h ⊢; exact pA t cs h
 | .rslc n cs,h=>by simp only [AV.subst,frz] at h ⊢; exact pA t cs h
 | .rmap ks vs,h=>by simp only [AV.subst,frz,Bool.and_eq_true] at h ⊢; exact ⟨pA t ks h.1,pA t vs h.2⟩
 | .fn f a b,h=>by simp only [frz,Bool.false_eq_true] at h
 | .iface ty x,h=>by simp only [AV.subst,frz] at h ⊢; exact xHw t x h
 | .agg cs,h=>by simp only [AV.subst,frz] at h ⊢; exact pA t cs h
 | .tup cs,h=>by simp only [AV.subst,frz] at h ⊢; exact pA t cs h
 | .bool b,h=>h
 | .int k n,h=>h
 | .str s,h=>h
 | .nilp,h=>h
 | .ptr id off,h=>h
 | .nils,h=>h
 | .slc id off len sz cap,h=>h
 | .eslc,h=>h
 | .nilm,h=>h
 | .mapv id,h=>h
 | .nilf,h=>h
 | .yield id,h=>h
 | .nili,h=>h
theorem pA (t:Toks):∀ al:List AV,frzs al=true→frzs (xK t al)=true
 | [],_=>rfl
 | a::al,h=>by
  simp only [frzs,xK,Bool.and_eq_true] at h ⊢
  exact ⟨xHw t a h.1,pA t al h.2⟩
end
section
variable {P:Program} {X:Ctx} {ρ:Nm} {h:H} {w:World}
theorem yA9 (t:Toks) {X0:Ctx} (xo:@XOK t.env P X0) (hg:X0.globs=.lf) {n d:Nat} {i:Pth} {args:List AV} {v1:AV} {h1:H} (hc:xC X0 n (.fn i [] []) args h0=.ret v1 h1) (hf:frzs args=true) (hfv:frz (deep d h1 v1)=true)
  (hr:@HR yU P X ρ h w) {avs:Array Value} (hv:@VRs yU w ρ (Lv ρ h) (xK t args) avs.toList):@mS yU P X ρ h w (callFunc i.num avs) (.ret ((deep d h1 v1).subst t) h):=by
 refine xW4 (envI:=yU) t.env xo hg hc hfv hr ((pP args _).2 ?_) (fun w' ρ2 vv _ _ hv=>(dX _ _).1 hv)
 have nolive:∀ b,¬ Lv (ρf ρ) h0 b:=fun b ⟨id,x,e,_⟩=>by cases id<;>cases e
 exact VRs.frzG (envI:=yU) (ρ:=ρ) (L:=Lv ρ h) (ρ2:=ρf ρ) (L2:=Lv (ρf ρ) h0) (fun b _ hb=>⟨nolive b,hb.2⟩) hv (pA t args hf)
end
end Go.Abs
end
section
namespace Go.Abs
def xBl (a b:List Nat):Int:=bif xY a b then -1 else bif xY b a then 1 else 0
def cmpL:List (List Nat)→List (List Nat)→Int
 | [],[]=>0
 | [],_::_ => -1
 | _::_,[]=>1
 | a::x,b::y=>if xBl a b=0 then cmpL x y else xBl a b
theorem xWs (a b:List Nat):xBl a b = -1∨xBl a b=0∨xBl a b=1:=by
 unfold xBl
 cases xY a b<;>cases xY b a<;>simp
theorem xLs:∀ (x y:List (List Nat)),cmpL x y = -1∨cmpL x y=0∨cmpL x y=1
 | [],[]=>.inr (.inl rfl)
 | [],_::_=>.inl rfl
 | _::_,[]=>.inr (.inr rfl)
 | a::x,b::y=>by
  unfold cmpL
  split
  ·exact xLs x y
  ·exact xWs a b
abbrev xBq:=List (List Nat×List Nat×Int)
inductive DT where
 | leaf (r:List Nat)
 | node (a b:List Nat) (lt eq gt:DT)
 deriving Inhabited
def DT.eval (σ:Nat→List Nat):DT→List Nat
 | .leaf r=>r
 | .node a b l e g=>if cmpL (a.map σ) (b.map σ) = -1 then l.eval σ else if cmpL (a.map σ) (b.map σ)=0 then e.eval σ else g.eval σ
def DT.all (p:xBq→List Nat→Bool):xBq→DT→Bool
 | k,.leaf r=>p k r
 | k,.node a b l e g=>l.all p ((a,b,-1)::k)&&(e.all p ((a,b,0)::k)&&g.all p ((a,b,1)::k))
def xBq.ok (σ:Nat→List Nat) (k:xBq):Prop:=∀ e∈k,cmpL (e.1.map σ) (e.2.1.map σ)=e.2.2
theorem DT.path {σ:Nat→List Nat} {p:xBq→List Nat→Bool}:∀ (d:DT) (k:xBq),d.all p k=true→xBq.ok σ k→∃ k',xBq.ok σ k'∧p k' (d.eval σ)=true
 | .leaf r,k,h,hk=>⟨k,hk,h⟩
 | .node a b l e g,k,h,hk=>by
  simp only [DT.all,Bool.and_eq_true] at h
  obtain ⟨h1,h2,h3⟩:=h
  have go:∀ c,cmpL (a.map σ) (b.map σ)=c→xBq.ok σ ((a,b,c)::k):=fun c hc x hx=>by
   rcases List.mem_cons.1 hx with rfl | hx
   ·exact hc
   ·exact hk x hx
  simp only [DT.eval]
  rcases xLs (a.map σ) (b.map σ) with hc | hc | hc
  ·rw [if_pos hc]
   exact DT.path l _ h1 (go _ hc)
  ·rw [if_neg (by omega),if_pos hc]
   exact DT.path e _ h2 (go _ hc)
  ·rw [if_neg (by omega),if_neg (by omega)]
   exact DT.path g _ h3 (go _ hc)
def yO8:List AV→Option (List Nat)
 | []=>some []
 | .sym i::vs=>match yO8 vs with | some l=>some (i::l) | none=>none
 | _::_=>none
def zSp:AV→Option (List Nat)
 | .rslc n cs=>bif Nat.beq n cs.length then yO8 cs else none
 | _=>none
def lookO:xBq→List Nat→List Nat→Option Int
 | [],_,_=>none
 | e::k,x,y=>bif eqS e.1 x&&eqS e.2.1 y then some e.2.2 else lookO k x y
def nC (l:List (List Nat)):AV:=.rslc l.length (l.map .str)
def yOc (f:Pth) (k:xBq) (more:Pth→List AV→H→Option AV) (i:Pth) (args:List AV) (h:H):Option AV :=
 bif Pth.beq i f then (match args with
  | [a,b]=>match zSp (deep 3 h a),zSp (deep 3 h b) with
   | some x,some y=>(match lookO k x y with | some c=>some (.int .i64 c) | none=>none)
   | _,_=>none
  | _=>none) else more i args h
def yOd (f:Pth) (a r:AV) (more:Pth→List AV→H→Option AV) (i:Pth) (args:List AV) (h:H):Option AV :=
 bif Pth.beq i f&&AV.beqs args [a] then some r else more i args h
end Go.Abs
end
section
namespace Go.Abs
def lookT:List (Pth×List AV×AV)→Pth→List AV→Option AV
 | [],_,_=>none
 | e::t,i,al=>bif Pth.beq e.1 i&&AV.beqs e.2.1 al then some e.2.2 else lookT t i al
def dR (tab:List (Pth×List AV×AV)) (more:Pth→List AV→H→Option AV) (i:Pth) (args:List AV) (h:H):Option AV :=
 match lookT tab i args with
 | some v=>some v
 | none=>more i args h
theorem lookT_mem:∀ {t:List (Pth×List AV×AV)} {i:Pth} {al:List AV} {v:AV},lookT t i al=some v→(i,al,v)∈t
 | [],_,_,_,h=>by cases h
 | e :: t,i,al,v,h=>by
  simp only [lookT] at h
  cases hb:(Pth.beq e.1 i&&AV.beqs e.2.1 al) with
  | true =>
   rw [hb] at h
   cases h
   rw [Bool.and_eq_true] at hb
   obtain ⟨h1,h2⟩:=hb
   rw [← Pth.beq_iff.1 h1,← AV.beqs_eq _ _ h2]
   exact List.mem_cons_self
  | false =>
   rw [hb] at h
   exact List.mem_cons_of_mem _ (lookT_mem h)
def zTz (X0:Ctx) (e:Pth×List AV×AV):Prop:=frzs e.2.1=true∧frz e.2.2=true∧∃ n v1 h1,xC X0 n (.fn e.1 [] []) e.2.1 h0=.ret v1 h1∧deep 8 h1 v1=e.2.2
theorem nV [envI:Env] {P:Program} {X X0:Ctx} (xo:XOK P X0) (hg:X0.globs=.lf) {tab:List (Pth×List AV×AV)} {more:Pth→List AV→H→Option AV} (ht:∀ e∈tab,zTz X0 e) (hm:jH P X more):jH P X (dR tab more):=by
 intro i args h v hs ρ w avs hr hv
 unfold dR at hs
 cases hl:lookT tab i args with
 | none=>rw [hl] at hs; exact hm i args h v hs ρ w avs hr hv
 | some u =>
  rw [hl] at hs
  cases hs
  obtain ⟨h1,h2,n,v1,h1',h3,h4⟩:=ht _ (lookT_mem hl)
  simp only at h1 h2 h3 h4
  subst h4
  exact xBc xo hg h3 h1 h2 hr hv
def isD (v:AV):CRes→Bool
 | .ret a h=>AV.beq (deep 8 h a) v
 | _=>false
theorem zYz {v:AV} {r:CRes} (h:isD v r=true):∃ v1 h1,r=.ret v1 h1∧deep 8 h1 v1=v:=by
 cases r with
 | ret a h'=>exact ⟨a,h',rfl,AV.beq_eq _ _ h⟩
 | panic _ _=>cases h
 | bad _=>cases h
noncomputable def xSy (X:Ctx) (n:Nat) (e:Pth×List AV×AV):Bool:=F.callC X n (.fn e.1 [] []) e.2.1 h0 (isD e.2.2)&&(frzs e.2.1&&frz e.2.2)
inductive Rows (X:Ctx):List (Pth×List AV×AV)→Prop
 | z:Rows X []
 | s {e:Pth×List AV×AV} {t:List (Pth×List AV×AV)} (h:xSy X 100 e=true) (ht:Rows X t):Rows X (e::t)
theorem zB7 {X:Ctx} {n:Nat} {r:Pth×List AV×AV} (h:xSy X n r=true):zTz X r:=by
 simp only [xSy,Bool.and_eq_true] at h
 obtain ⟨h1,h2,h3⟩:=h
 rw [F.callC_eq] at h1
 obtain ⟨v1,h1',e1,e2⟩:=zYz h1
 exact ⟨h2,h3,n,v1,h1',e1,e2⟩
theorem Rows.ok {X:Ctx} {tab:List (Pth×List AV×AV)} (h:Rows X tab):∀ e∈tab,zTz X e:=by
 induction h with
 | z=>exact fun _ he=>absurd he List.not_mem_nil
 | s h _ ih =>
  intro e he
  rcases List.mem_cons.1 he with rfl | he
  ·exact zB7 h
  ·exact ih e he
end Go.Abs
end
end
section
namespace Go.Abs.Sym
open Go.Abs.T
open Go.Proofs
theorem xC2:∀ a b:List Nat,(!(xY a b||eqS a b))=xY b a
 | [],[]=>rfl
 | [],_::_=>rfl
 | _::_,[]=>rfl
 | a :: x,b::y=>by
  have ih:=xC2 x y
  simp only [xY,eqS]
  by_cases h:a=b
  ·subst h
   have h1:Nat.blt a a=false:=by rw [Nat.blt,nD]; exact decide_eq_false (by omega)
   have h2:Nat.beq a a=true:=by rw [yH]; exact decide_eq_true rfl
   simp only [h1,h2,Bool.false_or,Bool.true_and,cond_true]
   exact ih
  ·have h2:Nat.beq a b=false:=by rw [yH]; exact decide_eq_false h
   have h3:Nat.beq b a=false:=by rw [yH]; exact decide_eq_false (fun e=>h e.symm)
   simp only [h2,h3,Bool.false_and,Bool.or_false,cond_false]
   by_cases hl:a<b
   ·have e1:Nat.blt a b=true:=by rw [Nat.blt,nD]; exact decide_eq_true (by omega)
    have e2:Nat.blt b a=false:=by rw [Nat.blt,nD]; exact decide_eq_false (by omega)
    rw [e1,e2]; rfl
   ·have e1:Nat.blt a b=false:=by rw [Nat.blt,nD]; exact decide_eq_false (by omega)
    have e2:Nat.blt b a=true:=by rw [Nat.blt,nD]; exact decide_eq_true (by omega)
    rw [e1,e2]; rfl
structure TokD where
 val:Nat→AV
 K:Nat
 σ:Nat→List Nat
 M:Nat
 φ:Nat→List Nat
 β:Nat→Int
 pos:Nat→Int
def gX (t:TokD) (i:Nat):AV :=
 bif wQ i then .int .i64 (t.pos (xBt i)+yD i)
 else bif Nat.ble bQ i then (bif Nat.beq (i / 8) t.K then .str (t.σ (i % 8)) else .sym i)
 else bif nX i then (bif Nat.beq (i / 8 % 256) t.M then .str (t.φ (i % 8)) else .sym i)
 else bif mV i then .int .i64 (t.β (i % 8)) else bif Nat.ble xHv i then .sym i else t.val i
theorem zZe {i j:Nat} (h:¬ pR i j=0):Nat.ble bQ i=true∧Nat.ble bQ j=true∧i / 8=j / 8∧pR i j=i / 8 / 4 ^ (8*(i % 8)+j % 8) % 4:=by
 unfold pR at h ⊢
 cases h1:Nat.ble bQ i with
 | false=>simp only [h1,Bool.false_and,cond_false,not_true_eq_false] at h
 | true =>
  cases h2:Nat.ble bQ j with
  | false=>simp only [h2,Bool.and_false,cond_false,not_true_eq_false] at h
  | true =>
   cases h3:Nat.beq (i / 8) (j / 8) with
   | false=>simp only [h1,h2,h3,Bool.and_self,cond_true,cond_false,not_true_eq_false] at h
   | true =>
    simp only [Bool.and_self,cond_true]
    exact ⟨trivial,trivial,Nat.eq_of_beq_eq_true h3,trivial⟩
def KOk (K:Nat) (σ:Nat→List Nat):Prop:=∀ a b,a<8→b<8→¬ K / 4 ^ (8*a+b) % 4=0→xSw (K / 4 ^ (8*a+b) % 4) (σ a) (σ b)
structure TokD.Ok (t:TokD):Prop where
 frz:∀ i,frz (t.val i)=true
 one:∀ i,(t.val i).one=true
 ord:KOk t.K t.σ
 fre:∀ i,mI (t.φ i) (xGr t.M vE)=false
 big:∀ i,2≤t.β i
 pos:∀ c,0≤t.pos c∧t.pos c≤100000
theorem xXi {i:Nat} (h:i<700000000∨800000000≤i):wQ i=false:=by
 cases hb:wQ i with
 | false=>rfl
 | true =>
  have h1:=Nat.eq_of_beq_eq_true hb
  omega
theorem xNi {i:Nat} (h:Nat.ble bQ i=true):wQ i=false:=xXi (.inr (by
 have h1:=Nat.le_of_ble_eq_true h
 have e:bQ=2722258935367507707706996859454145691648:=rfl
 omega))
theorem xVk {i:Nat} (h:i<bQ):Nat.ble bQ i=false:=by
 cases hb:Nat.ble bQ i with
 | false=>rfl
 | true=>exact absurd (Nat.le_of_ble_eq_true hb) (by omega)
theorem xUq {i:Nat} (h:nX i=true):Nat.ble bQ i=false:=xVk (by
 have:=xBz h
 have e:bQ=2722258935367507707706996859454145691648:=rfl
 omega)
theorem xLj {i:Nat} (h:mV i=true):Nat.ble bQ i=false:=xVk (by
 have:=xAk h
 have e:bQ=2722258935367507707706996859454145691648:=rfl
 omega)
theorem xLi {i:Nat} (h:mV i=true):nX i=false:=by
 cases hf:nX i with
 | false=>rfl
 | true =>
  simp only [mV,nX,Bool.and_eq_true] at h hf
  have a:=Nat.le_of_ble_eq_true h.1
  have b:=Nat.le_of_ble_eq_true hf.2
  have e:xHv=500000768:=rfl
  have e':bB=600000000:=rfl
  omega
def xH (t:TokD) (ok:t.Ok):Toks where
 val:=gX t
 frz:=fun i=>by
  unfold gX
  cases wQ i<;>cases Nat.ble bQ i<;>cases Nat.beq (i / 8) t.K<;>cases nX i<;>cases Nat.beq (i / 8 % 256) t.M<;>cases mV i<;>cases Nat.ble xHv i<;>first | rfl | exact ok.frz i
 one:=fun i=>by
  unfold gX
  cases wQ i<;>cases Nat.ble bQ i<;>cases Nat.beq (i / 8) t.K<;>cases nX i<;>cases Nat.beq (i / 8 % 256) t.M<;>cases mV i<;>cases Nat.ble xHv i<;>first | rfl | exact ok.one i
 top:=rfl
 int:=rfl
 bnd:=rfl
 nng:=rfl
 pos:=t.pos
 posB:=ok.pos
 aff:=fun i h=>by
  unfold gX
  rw [h]
  rfl
 ord := fun i j h=>by
  obtain ⟨h1,h2,h3,h4⟩:=zZe h
  unfold gX
  rw [xNi h1,xNi h2,h1,h2,← h3]
  cases hk:Nat.beq (i / 8) t.K with
  | false=>exact .inl rfl
  | true =>
   refine .inr ⟨_,_,rfl,rfl,?_⟩
   have e:=Nat.eq_of_beq_eq_true hk
   rw [h4,e] at h
   rw [h4,e]
   exact ok.ord _ _ (Nat.mod_lt _ (by decide)) (Nat.mod_lt _ (by decide)) h
 fre := fun i h=>by
  unfold gX
  rw [xXi (.inl (xBz h)),xUq h,h]
  cases hk:Nat.beq (i / 8 % 256) t.M with
  | false=>exact .inl rfl
  | true =>
   refine .inr ⟨_,rfl,?_⟩
   rw [zXs,Nat.eq_of_beq_eq_true hk]
   exact ok.fre _
 big:=fun i h=>by
  unfold gX
  rw [xXi (.inl (xAk h)),xLj h,xLi h,h]
  exact .inr ⟨_,ok.big _,rfl⟩
theorem xL3 {a b:Nat} (h:b<a):Nat.ble a b=false:=by
 cases hb:Nat.ble a b with
 | false=>rfl
 | true=>exact absurd (Nat.le_of_ble_eq_true hb) (by omega)
theorem kK {t:TokD} {i:Nat} (h:i<100000):gX t i=t.val i:=by
 have e:bQ=2722258935367507707706996859454145691648:=rfl
 have e':xHv=500000768:=rfl
 have e2:bB=600000000:=rfl
 have ha:wQ i=false:=xXi (.inl (by omega))
 unfold gX nX mV
 rw [ha,xL3 (a:=bQ) (b:=i) (by omega),xL3 (a:=xHv) (b:=i) (by omega),xL3 (a:=bB) (b:=i) (by omega)]
 rfl
def xBm (M i:Nat):Nat:=xHv+8*M+i
theorem xW8 {t:TokD} (hM:t.M<256) {i:Nat} (h:i<8):gX t (xBm t.M i)=.str (t.φ i):=by
 have e':xHv=500000768:=rfl
 have h2:Nat.ble xHv (xBm t.M i)=true:=Nat.ble_eq_true_of_le (by unfold xBm; omega)
 have h3:Nat.blt (xBm t.M i) (xHv+2048)=true:=Nat.ble_eq_true_of_le (by unfold xBm; omega)
 have h4:xBm t.M i % 8=i:=by unfold xBm; omega
 have h5:xBm t.M i / 8 % 256=t.M:=by unfold xBm; omega
 have h6:Nat.beq t.M t.M=true:=by rw [yH]; exact decide_eq_true rfl
 have hf:nX (xBm t.M i)=true:=by unfold nX; rw [h2,h3]; rfl
 unfold gX
 rw [xXi (.inl (xBz hf)),xUq hf,hf,h4,h5,h6]
 rfl
theorem xOi {t:TokD} {i:Nat} (h:i<8):gX t (bB+i)=.int .i64 (t.β i):=by
 have e':bB=600000000:=rfl
 have h2:Nat.ble bB (bB+i)=true:=Nat.ble_eq_true_of_le (by omega)
 have h3:Nat.blt (bB+i) (bB+8)=true:=Nat.ble_eq_true_of_le (by omega)
 have h4:(bB+i) % 8=i:=by omega
 have hf:mV (bB+i)=true:=by unfold mV; rw [h2,h3]; rfl
 unfold gX
 rw [xXi (.inl (xAk hf)),xLj hf,xLi hf,hf,h4]
 rfl
def xEk (K i:Nat):Nat:=i+8*K
def rK:Nat:=nat_lit 340282366920938463463374607431768211456
theorem xHa {t:TokD} (hN:rK≤t.K) {i:Nat} (h:i<8):gX t (xEk t.K i)=.str (t.σ i):=by
 have e:bQ=8*rK:=rfl
 have h1:Nat.ble bQ (xEk t.K i)=true:=Nat.ble_eq_true_of_le (by unfold xEk; omega)
 have h3:(i+8*t.K) / 8=t.K:=by omega
 have h4:(i+8*t.K) % 8=i:=by omega
 have h5:Nat.beq t.K t.K=true:=by rw [yH]; exact decide_eq_true rfl
 unfold gX
 rw [xNi h1,h1,xEk,h3,h4,h5]
 rfl
theorem xN6:∀ {x y:List Nat},xY x y=true→xY y x=false
 | _,[],h=>by simp [xY] at h
 | [],_::_,_=>rfl
 | a :: x,b::y,h=>by
  simp only [xY,Bool.or_eq_true,Bool.and_eq_true] at h
  simp only [xY,Bool.or_eq_false_iff,Bool.and_eq_false_iff]
  rcases h with h | ⟨h,h'⟩
  ·have:=Nat.le_of_ble_eq_true h
   refine ⟨?_,.inl ?_⟩
   ·cases hb:Nat.blt b a with
    | false=>rfl
    | true=>exact absurd (Nat.le_of_ble_eq_true hb) (by omega)
   ·cases hb:Nat.beq b a with
    | false=>rfl
    | true=>exact absurd (Nat.eq_of_beq_eq_true hb) (by omega)
  ·have e:=Nat.eq_of_beq_eq_true h
   subst e
   refine ⟨?_,.inr (xN6 h')⟩
   cases hb:Nat.blt a a with
   | false=>rfl
   | true=>exact absurd (Nat.le_of_ble_eq_true hb) (by omega)
theorem xQb:∀ {x y z:List Nat},xY x y=true→xY y z=true→xY x z=true
 | _,[],_,h,_=>by simp [xY] at h
 | _,_::_,[],_,h=>by simp [xY] at h
 | [],_::_,_::_,_,_=>rfl
 | a :: x,b::y,c::z,h,h'=>by
  simp only [xY,Bool.or_eq_true,Bool.and_eq_true] at h h' ⊢
  rcases h with h | ⟨h,h2⟩
  ·have p:=Nat.le_of_ble_eq_true h
   rcases h' with h' | ⟨h',h2'⟩
   ·have q:=Nat.le_of_ble_eq_true h'
    exact .inl (Nat.ble_eq_true_of_le (by omega))
   ·have q:=Nat.eq_of_beq_eq_true h'
    exact .inl (Nat.ble_eq_true_of_le (by omega))
  ·have p:=Nat.eq_of_beq_eq_true h
   subst p
   rcases h' with h' | ⟨h',h2'⟩
   ·exact .inl h'
   ·exact .inr ⟨h',xQb h2 h2'⟩
end Go.Abs.Sym
end
section
namespace Go.Abs.Sym
open Go.Abs.T
open Go.Proofs
abbrev mB:=List (List Nat×List Nat×Bool)
def eqL:List Nat→List Nat→Bool
 | [],[]=>true
 | a::x,b::y=>Nat.beq a b&&eqL x y
 | _,_=>false
theorem xMj:∀ {x y:List Nat},eqL x y=true→x=y
 | [],[],_=>rfl
 | a::x,b::y,h=>by
  simp only [eqL,Bool.and_eq_true] at h
  rw [Nat.eq_of_beq_eq_true h.1,xMj h.2]
 | [],_::_,h=>by cases h
 | _::_,[],h=>by cases h
def xV:List (List Nat)→List (List Nat)→Bool
 | a::x,b::y=>bif eqS a b then xV x y else xY a b
 | [],_::_=>true
 | _,[]=>false
def dir (k:mB) (x y:List Nat):Option Bool :=
 match k with
 | []=>none
 | e::k=>bif eqL e.1 x&&eqL e.2.1 y then some e.2.2 else dir k x y
def xTr (k:mB) (x y:List Nat):Option Bool :=
 bif eqL x y then some false else match dir k x y with
 | some b=>some b
 | none=>match dir k y x with
  | some true=>some false
  | _=>none
def by1 (k:mB) (x z y:List Nat):Option Bool :=
 match xTr k x z,xTr k z y with
 | some true,some true=>some true
 | some false,some false=>some false
 | some true,_=>(match xTr k y z with | some false=>some true | _=>none)
 | _,some true=>(match xTr k z x with | some false=>some true | _=>none)
 | _,_=>none
def via (k:mB) (x y:List Nat):mB→Option Bool
 | []=>none
 | e :: l=>match by1 k x e.1 y with
  | some b=>some b
  | none=>match by1 k x e.2.1 y with
   | some b=>some b
   | none=>via k x y l
def look (k:mB) (x y:List Nat):Option Bool :=
 match xTr k x y with
 | some b=>some b
 | none=>via k x y k
def xJf (σ:Nat→List Nat) (k:mB):Prop:=∀ e∈k,xV (e.1.map σ) (e.2.1.map σ)=e.2.2
theorem zIr:∀ x:List (List Nat),xV x x=false
 | []=>rfl
 | a::x=>by
  have:eqS a a=true:=qC.2 rfl
  simp only [xV,this,cond_true,zIr x]
theorem vO {a b:List Nat} (h:¬ a=b):eqS a b=false:=by
 cases hb:eqS a b with
 | false=>rfl
 | true=>exact absurd (qC.1 hb) h
theorem xVb:∀ {x y:List (List Nat)},xV x y=true→xV y x=false
 | [],[],h=>by cases h
 | [],_::_,_=>rfl
 | _::_,[],h=>by cases h
 | a :: x,b::y,h=>by
  by_cases e:a=b
  ·subst e
   simp only [xV,qC.2 rfl,cond_true] at h ⊢
   exact xVb h
  ·have e':¬ b=a:=fun h=>e h.symm
   simp only [xV,vO e,vO e',cond_false] at h ⊢
   exact xN6 h
theorem xC1:∀ {x y z:List (List Nat)},xV x y=true→xV y z=true→xV x z=true
 | [],[],_,h,_=>by cases h
 | _::_,[],_,h,_=>by cases h
 | _,_::_,[],_,h=>by cases h
 | [],_::_,_::_,_,_=>rfl
 | a :: x,b::y,c::z,h,h'=>by
  by_cases e:a=b
  ·subst e
   by_cases e2:a=c
   ·subst e2
    simp only [xV,qC.2 rfl,cond_true] at h h' ⊢
    exact xC1 h h'
   ·simp only [xV,qC.2 rfl,vO e2,cond_true,cond_false] at h h' ⊢
    exact h'
  ·by_cases e2:b=c
   ·subst e2
    simp only [xV,qC.2 rfl,vO e,cond_true,cond_false] at h h' ⊢
    exact h
   ·simp only [xV,vO e,vO e2,cond_false] at h h' ⊢
    have ht:=xQb h h'
    have e3:¬ a=c:=fun e3=>by
     subst e3
     rw [xN6 h] at h'
     cases h'
    rw [vO e3,cond_false]
    exact ht
theorem xC0:∀ {x y:List (List Nat)},xV x y=false→xV y x=false→x=y
 | [],[],_,_=>rfl
 | [],_::_,h,_=>by cases h
 | _::_,[],_,h=>by cases h
 | a :: x,b::y,h,h'=>by
  by_cases e:a=b
  ·subst e
   simp only [xV,qC.2 rfl,cond_true] at h h'
   rw [xC0 h h']
  ·exfalso
   have e':¬ b=a:=fun h=>e h.symm
   simp only [xV,vO e,vO e',cond_false] at h h'
   have ht:=xC2 a b
   rw [h,vO e,h'] at ht
   cases ht
theorem zIs {x y z:List (List Nat)} (h:xV y x=false) (h':xV y z=true):xV x z=true:=by
 cases hx:xV x y with
 | true=>exact xC1 hx h'
 | false=>rw [xC0 hx h]; exact h'
theorem zIt {x y z:List (List Nat)} (h:xV x y=true) (h':xV z y=false):xV x z=true:=by
 cases hy:xV y z with
 | true=>exact xC1 h hy
 | false=>rw [← xC0 hy h']; exact h
theorem yNk {x y z:List (List Nat)} (h:xV x y=false) (h':xV y z=false):xV x z=false:=by
 cases hx:xV x z with
 | false=>rfl
 | true =>
  cases hy:xV y x with
  | true=>rw [xC1 hy hx] at h'; cases h'
  | false =>
   have e:=xC0 h hy
   rw [e,h'] at hx
   cases hx
section
variable {σ:Nat→List Nat} {k:mB} (hk:xJf σ k)
include hk
theorem zHq {x y:List Nat} {b:Bool} (h:dir k x y=some b):xV (x.map σ) (y.map σ)=b:=by
 induction k with
 | nil=>cases h
 | cons e k ih =>
  unfold dir at h
  cases hb:eqL e.1 x&&eqL e.2.1 y with
  | true =>
   rw [hb] at h
   cases h
   rw [Bool.and_eq_true] at hb
   rw [← xMj hb.1,← xMj hb.2]
   exact hk e List.mem_cons_self
  | false =>
   rw [hb] at h
   exact ih (fun e he=>hk e (List.mem_cons_of_mem _ he)) h
theorem bK {x y:List Nat} {b:Bool} (h:xTr k x y=some b):xV (x.map σ) (y.map σ)=b:=by
 unfold xTr at h
 cases he:eqL x y with
 | true =>
  rw [he] at h
  cases h
  rw [xMj he]
  exact zIr _
 | false =>
  rw [he] at h
  simp only [cond_false] at h
  split at h
  ·rename_i b' hb
   cases h
   exact zHq hk hb
  ·split at h
   ·rename_i hb
    cases h
    exact xVb (zHq hk hb)
   ·cases h
theorem zHf {x z y:List Nat} {b:Bool} (h:by1 k x z y=some b):xV (x.map σ) (y.map σ)=b:=by
 unfold by1 at h
 split at h
 ·rename_i h1 h2
  cases h
  exact xC1 (bK hk h1) (bK hk h2)
 ·rename_i h1 h2
  cases h
  exact yNk (bK hk h1) (bK hk h2)
 ·rename_i h1 _
  split at h
  ·rename_i h3
   cases h
   exact zIt (bK hk h1) (bK hk h3)
  ·cases h
 ·rename_i h2 _
  split at h
  ·rename_i h3
   cases h
   exact zIs (bK hk h3) (bK hk h2)
  ·cases h
 ·cases h
theorem zTp {x y:List Nat} {b:Bool}:∀ {l:mB},via k x y l=some b→xV (x.map σ) (y.map σ)=b
 | [],h=>by cases h
 | e :: l,h=>by
  unfold via at h
  split at h
  ·rename_i b' hb
   cases h
   exact zHf hk hb
  ·split at h
   ·rename_i b' hb
    cases h
    exact zHf hk hb
   ·exact zTp h
theorem look_ok {x y:List Nat} {b:Bool} (h:look k x y=some b):xV (x.map σ) (y.map σ)=b:=by
 unfold look at h
 split at h
 ·rename_i b' hb
  cases h
  exact bK hk hb
 ·exact zTp hk h
end
def n8:List Nat:=[0,1,2,3,4,5,6,7]
def zHp (k:mB) (a b:Nat):Nat:=bif Nat.beq a b then 2 else match xTr k [a] [b] with
 | some true=>1
 | some false=>3
 | none=>0
def kOf (k:mB):Nat:=n8.foldl (fun s a=>n8.foldl (fun s b=>s+zHp k a b*4 ^ (8*a+b)) s) rK
def yNf (K:Nat) (k:mB):Bool:=n8.all fun a=>n8.all fun b=>let d:=K / 4 ^ (8*a+b) % 4; Nat.beq d 0||Nat.beq d (zHp k a b)
theorem zJ0 {a:Nat} (h:a<8):a∈n8:=by
 simp only [n8,List.mem_cons,List.not_mem_nil,or_false]; omega
theorem zIu (a b:List Nat):xV [a] [b]=xY a b:=by
 by_cases e:a=b
 ·subst e
  simp only [xV,qC.2 rfl,cond_true,xI1]
 ·simp only [xV,vO e,cond_false]
theorem zXn {σ:Nat→List Nat} {k:mB} (hk:xJf σ k) {a b:Nat} (_h:¬ zHp k a b=0):xSw (zHp k a b) (σ a) (σ b):=by
 unfold zHp
 cases hb:Nat.beq a b with
 | true =>
  have e:=Nat.eq_of_beq_eq_true hb
  subst e
  exact (⟨fun h=>by (exact absurd h (by decide)),fun _=>rfl,fun h=>by (exact absurd h (by decide))⟩:xSw 2 (σ a) (σ a))
 | false =>
  simp only [cond_false]
  split
  ·rename_i h
   have:=bK hk h
   simp only [List.map_cons,List.map_nil,zIu] at this
   exact (⟨fun _=>this,fun h=>absurd h (by decide),fun h=>absurd h (by decide)⟩:xSw 1 (σ a) (σ b))
  ·rename_i h
   have:=bK hk h
   simp only [List.map_cons,List.map_nil,zIu] at this
   exact (⟨fun h=>absurd h (by decide),fun h=>absurd h (by decide),fun _=>this⟩:xSw 3 (σ a) (σ b))
  ·exact (⟨fun h=>absurd h (by decide),fun h=>absurd h (by decide),fun h=>absurd h (by decide)⟩:xSw 0 (σ a) (σ b))
theorem yF8 {K:Nat} {k:mB} (h:yNf K k=true) {σ:Nat→List Nat} (hk:xJf σ k):KOk K σ:=by
 intro a b ha hb hn
 have h1:=List.all_eq_true.1 (List.all_eq_true.1 h a (zJ0 ha)) b (zJ0 hb)
 simp only [Bool.or_eq_true] at h1
 rcases h1 with h1 | h1
 ·exact absurd (Nat.eq_of_beq_eq_true h1) hn
 ·have e:=Nat.eq_of_beq_eq_true h1
  rw [e] at hn ⊢
  exact zXn hk hn
def zTx:List Nat→List Nat→List (Nat×Nat)
 | a::x,b::y=>(a,b)::zTx x y
 | _,_=>[]
def xZy (k:mB):mB→List (Nat×Nat)
 | []=>[]
 | e::l=>(match look k e.1 e.2.1,look k e.2.1 e.1 with
  | some false,some false=>zTx e.1 e.2.1
  | _,_=>[])++xZy k l
def zFf:List (Nat×Nat)→Nat→Nat
 | [],a=>a
 | e::l,a=>bif Nat.beq e.1 a&&Nat.blt e.2 a then e.2 else bif Nat.beq e.2 a&&Nat.blt e.1 a then e.1 else zFf l a
def rep (l:List (Nat×Nat)) (a:Nat):Nat:=zFf l (zFf l (zFf l a))
def xTc (σ:Nat→List Nat) (l:List (Nat×Nat)):Prop:=∀ e∈l,σ e.1=σ e.2
theorem zBd {σ:Nat→List Nat}:∀ {x y:List Nat},x.map σ=y.map σ→xTc σ (zTx x y)
 | [],_,_=>fun e he=>absurd he (by unfold zTx; exact List.not_mem_nil)
 | _::_,[],_=>fun e he=>absurd he (by unfold zTx; exact List.not_mem_nil)
 | a::x,b::y,h=>fun e he=>by
  simp only [List.map_cons,List.cons.injEq] at h
  rcases List.mem_cons.1 he with rfl | he
  ·exact h.1
  ·exact zBd h.2 e he
theorem xUk {σ:Nat→List Nat} {k:mB} (hk:xJf σ k):∀ l:mB,xTc σ (xZy k l)
 | []=>fun e he=>absurd he List.not_mem_nil
 | a :: l=>fun e he=>by
  unfold xZy at he
  rcases List.mem_append.1 he with he | he
  ·split at he
   ·rename_i h1 h2
    exact zBd (xC0 (look_ok hk h1) (look_ok hk h2)) e he
   ·exact absurd he List.not_mem_nil
  ·exact xUk hk l e he
theorem xL5 {σ:Nat→List Nat}:∀ {l:List (Nat×Nat)},xTc σ l→∀ a,σ (zFf l a)=σ a
 | [],_,_=>rfl
 | e :: l,h,a=>by
  unfold zFf
  cases h1:Nat.beq e.1 a&&Nat.blt e.2 a with
  | true =>
   rw [Bool.and_eq_true] at h1
   have:=h e List.mem_cons_self
   rw [Nat.eq_of_beq_eq_true h1.1] at this
   exact this.symm
  | false =>
   simp only [cond_false]
   cases h2:Nat.beq e.2 a&&Nat.blt e.1 a with
   | true =>
    rw [Bool.and_eq_true] at h2
    have:=h e List.mem_cons_self
    rw [Nat.eq_of_beq_eq_true h2.1] at this
    exact this
   | false=>exact xL5 (fun e he=>h e (List.mem_cons_of_mem _ he)) a
theorem yG0 {σ:Nat→List Nat} {l:List (Nat×Nat)} (h:xTc σ l) (a:Nat):σ (rep l a)=σ a:=by
 unfold rep
 rw [xL5 h,xL5 h,xL5 h]
inductive CT where
 | leaf
 | node (x y:List Nat) (l g:CT)
def gD:mB→CT→List mB
 | k,.leaf=>[k]
 | k,.node x y l g=>gD ((x,y,true)::k) l++gD ((x,y,false)::k) g
theorem xB5 {σ:Nat→List Nat}:∀ (d:CT) (k:mB),xJf σ k→∃ k'∈gD k d,xJf σ k'
 | .leaf,k,hk=>⟨k,List.mem_singleton.2 rfl,hk⟩
 | .node x y l g,k,hk=>by
  have go:∀ b,xV (x.map σ) (y.map σ)=b→xJf σ ((x,y,b)::k):=fun b h e he=>by
   rcases List.mem_cons.1 he with rfl | he
   ·exact h
   ·exact hk e he
  simp only [gD,List.mem_append]
  cases h:xV (x.map σ) (y.map σ) with
  | true =>
   obtain ⟨k',h1,h2⟩:=xB5 l _ (go true h)
   exact ⟨k',.inl h1,h2⟩
  | false =>
   obtain ⟨k',h1,h2⟩:=xB5 g _ (go false h)
   exact ⟨k',.inr h1,h2⟩
abbrev Gt:=List (Int×List (Nat×Int))
def zC8:List Nat→Nat→Nat
 | [],_=>0
 | a::_,0=>a
 | _::l,n+1=>zC8 l n
def yG4:List Nat→Nat→Nat→List Nat
 | [],_,_=>[]
 | _::l,0,x=>x::l
 | a::l,n+1,x=>a::yG4 l n x
def yDl (k:mB) (x y:List Nat) (c:mB→Bool→CT):CT :=
 match look k x y with
 | some b=>c k b
 | none=>.node x y (c ((x,y,true)::k) true) (c ((x,y,false)::k) false)
def xV6:Gt→List Nat→mB→(List Nat→mB→CT)→CT
 | [],r,l,k=>k r l
 | (_,[(p,g),(q,g')])::gs,r,l,k =>
  bif eqI g g'&&ltI 0 g then yDl l [zC8 r q] [zC8 r p] fun l c=>bif c then xV6 gs (yG4 (yG4 r p (zC8 r q)) q (zC8 r p)) l k else xV6 gs r l k
  else xV6 gs r l k
 | _::gs,r,l,k=>xV6 gs r l k
def yN9 (x:List Nat):List (List Nat)→List (List Nat)→mB→(List (List Nat)→mB→CT)→CT
 | [],after,l,k=>k (x::after) l
 | y::ys,after,l,k=>yDl l x y fun l c=>bif c then yN9 x ys (y::after) l k else k (ys.reverse++y::x::after) l
def yDc:List (List Nat)→List (List Nat)→mB→(List (List Nat)→mB→CT)→CT
 | [],done,l,k=>k done l
 | x::xs,done,l,k=>yN9 x done.reverse [] l fun d l=>yDc xs d l k
def exQ (x:List Nat):List (List Nat)→List (List Nat)→mB→(List Nat→List (List Nat)→mB→CT)→CT
 | [],done,l,k=>k x done.reverse l
 | y::ys,done,l,k=>yDl l y x fun l c=>bif c then exQ y ys (x::done) l k else exQ x ys (y::done) l k
def yMh:Nat→List (List Nat)→mB→(mB→CT)→CT
 | 0,_,l,k=>k l
 | _,[],l,k=>k l
 | n+1,x::xs,l,k=>exQ x xs [] l fun _ ys l=>yMh n ys l k
def yD1:List Int→Gt→List Nat→mB→(mB→CT)→CT
 | [],_,_,l,k=>k l
 | c::cs,gs,r,l,k =>
  let ps:=(gs.filter (fun g=>eqI g.1 c)).map (fun g=>g.2.map (·.1))
  let xs:=ps.map (fun p=>p.map (zC8 r))
  yDc xs [] l fun _ l=>yMh 4 xs l fun l=>yD1 cs gs r l k
def yO9 (m:Nat) (gs:Gt):CT:=xV6 gs ([0,1,2,3,4,5].take m) [] fun r l=>yD1 [1,2,7] gs r l fun _=>.leaf
def zZ3 (nm:List (List Nat)):List AV→List (Nat×Int)
 | .str s::.int _ g::l=>(nm.findIdx (eqS s),g)::zZ3 nm l
 | .str s::.sym _::l=>(nm.findIdx (eqS s),7)::zZ3 nm l
 | _=>[]
def zIa (nm:List (List Nat)):List AV→Gt
 | .int _ k::.rslc _ ls::l=>(k,zZ3 nm ls)::zIa nm l
 | .sym _::.rslc _ ls::l=>(7,zZ3 nm ls)::zIa nm l
 | _=>[]
def xI2:List AV→List (List Nat)
 | .str s::_::_::_::_::_::_::l=>s::xI2 l
 | _=>[]
def xFu:AV→CT
 | .agg [_,.rslc m ps,.rslc _ gs]=>yO9 m (zIa (xI2 ps) gs)
 | _=>.leaf
def xP2 (K m:Nat):AV:=.rslc m (([0,1,2,3,4,5].take m).map fun i=>.sym (xEk K i))
def xQ6 (K:Nat):AV→Bool
 | .sym i=>Nat.beq (i / 8) K
 | _=>false
def xVj (K m:Nat):AV→Bool
 | .tup [.rslc n cs,.bool true]=>Nat.beq n m&&Nat.beq cs.length m&&cs.all (xQ6 K)
 | _=>false
def yDb (p:AV→Bool) (r1 r2:CRes):Bool :=
 match r1 with
 | .ret v1 h1=>match r2 with
  | .ret v2 h2=>let d:=deep 8 h1 v1; AV.beq d (deep 8 h2 v2)&&p d
  | _=>false
 | _=>false
def zFg (l:List (Nat×Nat)):List AV→List Nat
 | .sym i::cs=>rep l (i % 8)::zFg l cs
 | _=>[]
def resC:AV→List AV
 | .tup [.rslc _ cs,_]=>cs
 | _=>[]
def yDa (l:List (Nat×Nat)) (K m:Nat) (r1 r2:CRes):Bool :=
 match r1 with
 | .ret v1 h1=>match r2 with
  | .ret v2 h2=>let d:=deep 8 h1 v1; let e:=deep 8 h2 v2; xVj K m d&&(xVj K m e&&eqL (zFg l (resC d)) (zFg l (resC e)))
  | _=>false
 | _=>false
end Go.Abs.Sym
end
section
namespace Go.Abs
theorem mS.frozen {P:Program} {X X0:Ctx} {ρ:Nm} {h:H} {w:World} (E0:Env) [envI:Env] {s:Sem Next} {d:Nat} {v1 v2:AV} {h1:H} (hfv:frz (deep d h1 v1)=true) (hr:@HR envI P X ρ h w)
  (hR:@mS E0 P X0 (ρf ρ) h0 w s (.ret v1 h1)) (hback:∀ w' ρ2 vv,@VR E0 w' ρ2 (Lv ρ2 h) (deep d h1 v1) vv→@VR envI w' ρ2 (Lv ρ2 h) v2 vv):@mS envI P X ρ h w s (.ret v2 h):=by
 have nolive:∀ b,¬ Lv (ρf ρ) h0 b:=fun b ⟨id,x,e,_⟩=>by cases id<;>cases e
 have back:∀ {vv w'},@vC E0 P X0 (ρf ρ) h0 w v1 h1 vv w'→@vC envI P X ρ h w v2 h vv w':=by
  intro vv w' hb
  obtain ⟨k1,k2,k3,k4,k5⟩:=vC.kept (envI:=E0) hb
  obtain ⟨ρ',g1,g2,g3⟩:=hb
  let ρ2:Nm:=⟨ρ.f,fun b=>ρ.base b∨w.heap.size≤b∧b<w'.heap.size,ρ.res⟩
  have hsim:Sim ρ (Lv ρ h) w ρ2 (Lv ρ2 h) w' :=
   ⟨⟨fun _ h=>.inl h,fun b hb hx=>hx.elim id (fun hx=>by omega),fun _ _ h=>h,k2,fun b hb _=>k1 b hb,fun b hb=>.of_eq (k1 b hb),fun _ _ h=>h,k3,k4,k5⟩,rfl⟩
  have hr2:@HR envI P X ρ2 h w':={
   live:=fun id x e=>by
    obtain ⟨b,o,h1,h2,h3⟩:=hr.live id x e
    exact ⟨b,o,h1,(k1 b (lt_of_heap h2)).trans h2,h3.mono hsim hr.bound⟩
   inj:=hr.inj
   ro := fun id cs e1 e2=>by
    obtain ⟨b,c,el,fz,h1,h2,h3,h4⟩:=hr.ro id cs e1 e2
    exact ⟨b,c,el,fz,h1,h2.mono0 hsim.toSim0 (lt_of_heap h3),(k1 b (lt_of_heap h3)).trans h3,h4.mono hsim hr.bound⟩
   fresh:=hr.fresh
   bound:=fun id b e=>Nat.lt_of_lt_of_le (hr.bound id b e) k2
   globs:=fun g cs e=>by
    obtain ⟨h1,c,el,fz,h2,h3⟩:=hr.globs g cs e
    exact ⟨h1.mono0 hsim.toSim0 (lt_of_heap h2),c,el,fz,(k1 _ (lt_of_heap h2)).trans h2,h3.mono hsim hr.bound⟩
   low:=fun b hb=>hb.elim (fun hb=>Nat.lt_of_lt_of_le (hr.low b hb) k2) (fun hb=>hb.2)
   resv:=hr.resv
   disj:=fun b hb hl=>hb.elim (fun hb=>hr.disj b hb hl) (fun hb=>by
    obtain ⟨id,x,_,e⟩:=hl
    have:=hr.bound id b e
    omega) }
  refine ⟨ρ2,hr2,hsim,hback _ _ _ (xTq (envI:=E0) g1 (fun b hb hx => ?_) d v1 vv g3 hfv)⟩
  have hb2:ρ2.base b:=by
   by_cases hlt:b<w.heap.size
   ·rcases hx with hx | hx
    ·exact .inl (g2.baseN b hlt hx.2)
    ·exact absurd (g2.live b hlt hx) (nolive b)
   ·exact .inr ⟨by omega,hb⟩
  exact ⟨fun hl=>hr2.disj b hb2 hl,hb2⟩
 obtain ⟨nx,w1,hrun,hR⟩:=hR
 refine ⟨nx,w1,hrun,?_⟩
 rcases hR with ⟨vv,e,hb⟩ | ⟨F,hF,hR⟩
 ·exact .inl ⟨vv,e,back hb⟩
 ·refine .inr ⟨F,hF,fun c cs => ?_⟩
  obtain ⟨vv,w',hb,hst⟩:=hR c cs
  exact ⟨vv,w',back hb,hst⟩
end Go.Abs
namespace Go.Abs.Sym
open Go.Abs.T
open Go.Proofs
def zP (f:Pth) (args:List AV) (v:AV):Prop:=∀ (X:Ctx) (ρ:Nm) (h:H) (w:World) (avs:Array Value),@HR yU Tryz.prog X ρ h w→@VRs yU w ρ (Lv ρ h) args avs.toList→@mS yU Tryz.prog X ρ h w (callFunc f.num avs) (.ret v h)
theorem hY (t:Toks) {X0:Ctx} (xo:@XOK t.env Tryz.prog X0) (hg:X0.globs=.lf) {n d:Nat} {f:Pth} {args:List AV} {v1:AV} {h1:H} (hc:xC X0 n (.fn f [] []) args h0=.ret v1 h1) (hf:frzs args=true) (hfv:frz (deep d h1 v1)=true):zP f (xK t args) ((deep d h1 v1).subst t) :=
 fun _ _ _ _ _ hr hv=>yA9 t xo hg hc hf hfv hr hv
theorem kU {X0:Ctx} (xo:@XOK yU Tryz.prog X0) (hg:X0.globs=.lf) {n d:Nat} {f:Pth} {args:List AV} {v1:AV} {h1:H} (hc:xC X0 n (.fn f [] []) args h0=.ret v1 h1) (hf:frzs args=true) (hfv:frz (deep d h1 v1)=true):zP f args (deep d h1 v1) :=
 fun _ _ _ _ _ hr hv=>xBc (envI:=yU) xo hg hc hf hfv hr hv
def wY (f:Pth) (al:List AV) (r:AV) (more:Pth→List AV→H→Option AV) (i:Pth) (args:List AV) (h:H):Option AV :=
 bif Pth.beq i f&&AV.beqs args al then some r else more i args h
theorem nJ {X:Ctx} (t:Toks) {f:Pth} {al:List AV} {r:AV} {more:Pth→List AV→H→Option AV} (hz:frzs al=true) (hp:frz r=true) (hF:zP f (xK t al) (r.subst t)) (hm:@jH t.env Tryz.prog X more):@jH t.env Tryz.prog X (wY f al r more):=by
 intro i args h v hs ρ w avs hr hv
 unfold wY at hs
 cases hi:(Pth.beq i f&&AV.beqs args al) with
 | false=>rw [hi] at hs; exact hm i args h v hs ρ w avs hr hv
 | true =>
  rw [hi] at hs
  simp only [cond_true,Option.some.injEq] at hs
  subst hs
  rw [Bool.and_eq_true] at hi
  obtain ⟨h1,h2⟩:=hi
  have:=AV.beqs_eq _ _ h2
  subst this
  rw [Pth.beq_iff.1 h1]
  have nolive:∀ b,¬ Lv (ρf ρ) h0 b:=fun b ⟨id,x,e,_⟩=>by cases id<;>cases e
  have h1:@VRs t.env w (ρf ρ) (Lv (ρf ρ) h0) args avs.toList :=
   VRs.frzG (envI:=t.env) (w:=w) (ρ:=ρ) (L:=Lv ρ h) (ρ2:=ρf ρ) (L2:=Lv (ρf ρ) h0) (fun b _ hb=>⟨nolive b,hb.2⟩) hv hz
  have hl:∀ b,ρ.base b→b<w.heap.size:=HR.low (envI:=t.env) hr
  have h2:@HR yU Tryz.prog X0 (ρf ρ) h0 w:=HR.emptyF (envI:=yU) rfl hl (HR.opn (envI:=t.env) hr).1 (HR.opn (envI:=t.env) hr).2
  have h3:=hF X0 (ρf ρ) h0 w avs h2 ((pP _ _).1 h1)
  exact mS.frozen (d:=0) (envI:=t.env) yU (show frz (r.subst t)=true from xHw t r hp) hr h3 (fun w' ρ2 vv hv=>(dX _ _).2 hv)
open Classical in
noncomputable def pI (f g:Pth) (G:List AV→AV→Prop) (more:Pth→List AV→H→Option AV) (i:Pth) (args:List AV) (h:H):Option AV :=
 if i=f∨i=g then (if hx:∃ v,G args v∧zP f args v∧zP g args v then some hx.choose else none) else more i args h
theorem xNn {X:Ctx} {f g:Pth} {G:List AV→AV→Prop} {more:Pth→List AV→H→Option AV} (hm:@jH yU Tryz.prog X more):@jH yU Tryz.prog X (pI f g G more):=by
 intro i args h v hs ρ w avs hr hv
 unfold pI at hs
 split at hs
 ·rename_i hi
  split at hs
  ·rename_i hx
   cases hs
   obtain ⟨_,h1,h2⟩:=hx.choose_spec
   rcases hi with rfl | rfl
   ·exact h1 _ _ _ _ _ hr hv
   ·exact h2 _ _ _ _ _ hr hv
  ·cases hs
 ·exact hm i args h v hs ρ w avs hr hv
theorem xNm {f g:Pth} {G:List AV→AV→Prop} (more:Pth→List AV→H→Option AV) {args:List AV} (hx:∃ v,G args v∧zP f args v∧zP g args v):∃ v,G args v∧∀ h,pI f g G more f args h=some v∧pI f g G more g args h=some v:=by
 refine ⟨hx.choose,hx.choose_spec.1,fun h=>⟨?_,?_⟩⟩
 ·unfold pI
  rw [if_pos (.inl rfl),dif_pos hx]
 ·unfold pI
  rw [if_pos (.inr rfl),dif_pos hx]
theorem rF {f g i:Pth} {G:List AV→AV→Prop} {more:Pth→List AV→H→Option AV} (h1:¬ i=f) (h2:¬ i=g) (args:List AV) (h:H):pI f g G more i args h=more i args h:=by
 unfold pI
 rw [if_neg (fun h=>h.elim h1 h2)]
end Go.Abs.Sym
end
section
namespace Go.Abs.T
open Go.Abs.Sym
open Go.Proofs
open AV
def nfN {β:Type} (n:Nat) (k:Nat→β):β:=Nat.casesOn n (k 0) (fun n=>k (n+1))
theorem xEg {β:Type} (n:Nat) (k:Nat→β):nfN n k=k n:=by cases n<;>rfl
def nfI {β:Type} (n:Int) (k:Int→β):β:=Int.casesOn n (fun a=>nfN a fun a=>k (.ofNat a)) (fun a=>nfN a fun a=>k (.negSucc a))
theorem yFh {β:Type} (n:Int) (k:Int→β):nfI n k=k n:=by
 cases n with
 | ofNat a=>exact xEg a (fun a=>k (.ofNat a))
 | negSucc a=>exact xEg a (fun a=>k (.negSucc a))
def nfS {β:Type}:List Nat→(List Nat→β)→β
 | [],k=>k []
 | a::l,k=>nfN a fun a=>nfS l fun l=>k (a::l)
theorem zJe {β:Type}:∀ (l:List Nat) (k:List Nat→β),nfS l k=k l
 | [],_=>rfl
 | a::l,k=>by rw [nfS,xEg,zJe l]
mutual
def nfA {β:Type}:AV→(AV→β)→β
 | .agg cs,k=>xVi cs fun cs=>k (.agg cs)
 | .tup cs,k=>xVi cs fun cs=>k (.tup cs)
 | .rslc n cs,k=>nfN n fun n=>xVi cs fun cs=>k (.rslc n cs)
 | .str s,k=>nfS s fun s=>k (.str s)
 | .int i n,k=>nfI n fun n=>k (.int i n)
 | .sym i,k=>nfN i fun i=>k (.sym i)
 | .bool b,k=>bif b then k (.bool true) else k (.bool false)
 | .iface t v,k=>nfA v fun v=>k (.iface t v)
 | v,k=>k v
def xVi {β:Type}:List AV→(List AV→β)→β
 | [],k=>k []
 | v::vs,k=>nfA v fun v=>xVi vs fun vs=>k (v::vs)
end
mutual
theorem dC {β:Type}:∀ (v:AV) (k:AV→β),nfA v k=k v
 | .agg cs,k=>by rw [nfA,xD0 cs]
 | .tup cs,k=>by rw [nfA,xD0 cs]
 | .rslc n cs,k=>by rw [nfA,xEg,xD0 cs]
 | .str s,k=>by rw [nfA,zJe]
 | .int i n,k=>by rw [nfA,yFh]
 | .sym i,k=>by rw [nfA,xEg]
 | .bool b,k=>by cases b<;>rfl
 | .iface t v,k=>by rw [nfA,dC v]
 | .nilp,k=>rfl
 | .ptr _ _,k=>rfl
 | .rptr _,k=>rfl
 | .nils,k=>rfl
 | .slc _ _ _ _ _,k=>rfl
 | .eslc,k=>rfl
 | .nilm,k=>rfl
 | .mapv _,k=>rfl
 | .rmap _ _,k=>rfl
 | .nilf,k=>rfl
 | .fn _ _ _,k=>rfl
 | .yield _,k=>rfl
 | .nili,k=>rfl
theorem xD0 {β:Type}:∀ (vs:List AV) (k:List AV→β),xVi vs k=k vs
 | [],k=>rfl
 | v::vs,k=>by rw [xVi,dC v,xD0 vs]
end
noncomputable def both (X:Ctx) (f g:Pth) (args:List AV) (p:AV→Bool):Bool :=
 F.callC X 100 (.fn f [] []) args h0 (fun r1=>F.callC X 100 (.fn g [] []) args h0 (fun r2=>yDb p r1 r2))
def yNs (m:Nat):AV→Bool
 | .tup [.rslc n cs,.int k _]=>eqK k .i64&&(Nat.beq n m&&Nat.beq cs.length m&&cs.all (xQ6 rK))
 | .tup [.nils,.int k _]=>eqK k .i64
 | _=>false
def xL1 (nm:List (List Nat)):Nat→List (List Nat)→Nat
 | _,[]=>0
 | k,s::l=>(bif mI s nm then 2 ^ k else 0)+xL1 nm (k+1) l
def xXh (nm:List (List Nat)):Nat:=xL1 nm 0 vE
def xL9:AV→List (List Nat)
 | .agg [_,.rslc _ ps,_]=>xI2 ps
 | _=>[]
end Go.Abs.T
end
section
namespace Go.Abs
def yRe:AV→AV→Bool
 | .agg [_,_,.int _ r],.agg [_,_,.int _ r']=>eqI r r'
 | .agg [.int _ x,.int _ y],.agg [.int _ x',.int _ y']=>eqI x x'&&eqI y y'
 | _,_=>true
def yFt:List AV→List AV→Bool
 | x::xs,y::ys=>yFt xs ys&&yRe x y
 | _,_=>true
def xVc (t:List (List AV×AV)) (args:List AV):Option AV :=
 match t with
 | []=>none
 | e::t=>bif yFt e.1 args&&AV.beqs e.1 args then some e.2 else xVc t args
abbrev Grp:Type:=List (Pth×List (List AV×AV))
def xMr (g:Grp) (more:Pth→List AV→H→Option AV) (i:Pth) (args:List AV) (h:H):Option AV :=
 match g with
 | []=>more i args h
 | e::g=>bif Pth.beq i e.1 then (match xVc e.2 args with | some v=>some v | none=>xMr g more i args h) else xMr g more i args h
theorem xQa:∀ {t:List (List AV×AV)} {al:List AV} {v:AV},xVc t al=some v→(al,v)∈t
 | [],_,_,h=>by cases h
 | e :: t,al,v,h=>by
  simp only [xVc] at h
  cases hb:(yFt e.1 al&&AV.beqs e.1 al) with
  | false=>rw [hb] at h; exact List.mem_cons_of_mem _ (xQa h)
  | true =>
   rw [hb] at h
   cases h
   rw [Bool.and_eq_true] at hb
   have:=AV.beqs_eq _ _ hb.2
   subst this
   exact List.mem_cons_self
theorem xHy {more:Pth→List AV→H→Option AV} {i:Pth} {args:List AV} {h:H} {v:AV}:∀ {g:Grp},xMr g more i args h=some v→(∃ e∈g,e.1=i∧(args,v)∈e.2)∨more i args h=some v
 | [],hs=>.inr hs
 | e :: g,hs=>by
  unfold xMr at hs
  cases hb:Pth.beq i e.1 with
  | false =>
   rw [hb] at hs
   rcases xHy hs with ⟨x,h1,h2⟩ | hs
   ·exact .inl ⟨x,List.mem_cons_of_mem _ h1,h2⟩
   ·exact .inr hs
  | true =>
   rw [hb] at hs
   simp only [cond_true] at hs
   cases hl:xVc e.2 args with
   | some u =>
    rw [hl] at hs
    cases hs
    exact .inl ⟨e,List.mem_cons_self,(Pth.beq_iff.1 hb).symm,xQa hl⟩
   | none =>
    rw [hl] at hs
    rcases xHy hs with ⟨x,h1,h2⟩ | hs
    ·exact .inl ⟨x,List.mem_cons_of_mem _ h1,h2⟩
    ·exact .inr hs
end Go.Abs
namespace Go.Abs.T
open Go.Abs.Sym
open Go.Proofs
def yH5 (f:Pth) (r:List AV×AV):Prop:=∃ X0:Ctx,(∀ E:Env,@XOK E Tryz.prog X0)∧X0.globs=.lf∧zTz X0 (f,r.1,r.2)
def GOK (g:Grp):Prop:=∀ e∈g,∀ r∈e.2,yH5 e.1 r
theorem GOK.nil:GOK []:=fun _ h=>absurd h List.not_mem_nil
theorem GOK.app {g h:Grp} (h1:GOK g) (h2:GOK h):GOK (g++h):=fun e he=>(List.mem_append.1 he).elim (h1 e) (h2 e)
theorem GOK.sub {g h:Grp} (h1:GOK g) (h2:∀ e∈h,e∈g):GOK h:=fun e he=>h1 e (h2 e he)
theorem wS (t:Toks) {f:Pth} {r:List AV×AV} (h:yH5 f r):zP f (xK t r.1) (r.2.subst t):=by
 obtain ⟨X0,xo,hg,hf,hz,n,v1,h1,hc,hd⟩:=h
 have:=hY t (xo t.env) hg hc hf (d:=8) (by rw [hd]; exact hz)
 rw [hd] at this
 exact this
theorem xUs {E:Env} {X:Ctx} {g:Grp} {more:Pth→List AV→H→Option AV} (hg:GOK g) (hm:@jH E Tryz.prog X more):@jH E Tryz.prog X (xMr g more):=by
 intro i args h v hs ρ w avs hr hv
 rcases xHy hs with ⟨e,h1,rfl,h2⟩ | hs
 ·obtain ⟨X0,xo,hgl,hf,hz,n,v1,h1',hc,hd⟩:=hg e h1 _ h2
  have hd':deep 8 h1' v1=v:=hd
  have hz':frz v=true:=hz
  rw [← hd'] at hz' ⊢
  exact xBc (envI:=E) (xo E) hgl hc hf hz' hr hv
 ·exact hm i args h v hs ρ w avs hr hv
def XL (g:Grp):Ctx:={ X0 with sums:=xMr g (fun _ _ _=>none) }
theorem okL {g:Grp} (hg:GOK g) (E:Env):@XOK E Tryz.prog (XL g):=@XOK.mk E _ _ mixed kV (mT (envI:=E)) (xUs hg (kX (envI:=E)))
def nfR {β:Type} (r:List AV×AV) (k:List AV×AV→β):β:=xVi r.1 fun a=>nfA r.2 fun v=>k (a,v)
theorem yFj {β:Type} (r:List AV×AV) (k:List AV×AV→β):nfR r k=k r:=by rw [nfR,xD0,dC]
def zJd {β:Type}:List (List AV×AV)→(List (List AV×AV)→β)→β
 | [],k=>k []
 | r::l,k=>nfR r fun r=>zJd l fun l=>k (r::l)
theorem xS7 {β:Type}:∀ (l:List (List AV×AV)) (k:List (List AV×AV)→β),zJd l k=k l
 | [],_=>rfl
 | r::l,k=>by rw [zJd,yFj,xS7 l]
def nfG {β:Type}:Grp→(Grp→β)→β
 | [],k=>k []
 | e::g,k=>zJd e.2 fun t=>nfG g fun g=>k ((e.1,t)::g)
theorem zJa {β:Type}:∀ (g:Grp) (k:Grp→β),nfG g k=k g
 | [],_=>rfl
 | e::g,k=>by rw [nfG,xS7,zJa g]
noncomputable def xB (g:Grp) (f:Pth) (t:List (List AV×AV)):Bool:=nfG g fun g=>zJd t fun t=>t.all fun r=>xSy (XL g) 100 (f,r.1,r.2)
theorem xL {g:Grp} (hg:GOK g) {f:Pth} {t:List (List AV×AV)} (h:xB g f t=true):GOK [(f,t)]:=by
 intro e he r hr
 rw [List.mem_singleton] at he
 subst he
 unfold xB at h
 rw [zJa,xS7] at h
 exact ⟨XL g,okL hg,rfl,zB7 (List.all_eq_true.1 h r hr)⟩
noncomputable def yRo (g n:Grp):Bool:=nfG g fun g=>nfG n fun n=>n.all fun e=>e.2.all fun r=>xSy (XL g) 100 (e.1,r.1,r.2)
theorem GOK.cons {f:Pth} {t:List (List AV×AV)} {g:Grp} (h1:GOK [(f,t)]) (h2:GOK g):GOK ((f,t)::g):=h1.app h2
theorem xA {g:Grp} (hg:GOK g) {f:Pth} {t:List (List AV×AV)} {i c:Nat} (h:xB g f ((t.drop i).take c)=true) (h2:GOK [(f,t.drop (i+c))]):GOK [(f,t.drop i)]:=by
 intro e he r hr
 rw [List.mem_singleton] at he
 subst he
 have hr':r∈t.drop i:=hr
 rw [← List.take_append_drop c (t.drop i),List.drop_drop] at hr'
 rcases List.mem_append.1 hr' with hr | hr
 ·exact xL hg h _ (List.mem_singleton.2 rfl) r hr
 ·exact h2 _ (List.mem_singleton.2 rfl) r hr
theorem yB {g:Grp} {f:Pth} {t:List (List AV×AV)} {i c:Nat} (hl:t.length≤i+c) (h:xB g f ((t.drop i).take c)=true):xB g f (t.drop i)=true:=by
 rwa [List.take_of_length_le (by rw [List.length_drop]; omega)] at h
end Go.Abs.T
end
section
namespace Go.Abs.Sym
open Go.Abs.T
open Go.Proofs
def xRt:Nat→List AV→List AV
 | k,.str s::_::_::_::_::_::_::l=>.str s::.sym (10*k)::.sym (10*k+1)::.sym (10*k+2)::.sym (10*k+3)::.sym (10*k+4)::.sym (10*k+5)::xRt (k+1) l
 | _,_=>[]
def xTh:List AV→List AV
 | .str s::.int i k::l=>.str s::(bif eqK i .i64&&leI 2 k then .sym (bB+1) else .int i k)::xTh l
 | _=>[]
def xPi:List AV→List AV
 | .int i k::.rslc n ls::l=>(bif eqK i .i64&&leI 2 k then .sym bB else .int i k)::.rslc n (xTh ls)::xPi l
 | _=>[]
def yRm:AV→AV
 | .agg [_,.rslc m ps,.rslc q gs]=>.agg [.sym 900,.rslc m (xRt 0 ps),.rslc q (xPi gs)]
 | .agg [_,.rslc m ps,_]=>.agg [.sym 900,.rslc m (xRt 0 ps),.nils]
 | v=>v
def xXu:List AV→Bool
 | .str _::a::b::c::d::e::f::l=>(frz a&&a.one&&(frz b&&b.one&&(frz c&&c.one)))&&(frz d&&d.one&&(frz e&&e.one&&(frz f&&f.one)))&&xXu l
 | []=>true
 | _=>false
def xRz (u:Int):List AV→Bool
 | .str _::.int i k::l=>(bif eqK i .i64&&leI 2 k then eqI k u else true)&&xRz u l
 | []=>true
 | _=>false
def xG2 (w u:Int):List AV→Bool
 | .int i k::.rslc _ ls::l=>(bif eqK i .i64&&leI 2 k then eqI k w else true)&&xRz u ls&&xG2 w u l
 | []=>true
 | _=>false
def yRr (w u:Int):AV→Bool
 | .agg [.str _,.rslc _ ps,.rslc _ gs]=>xXu ps&&Nat.ble ps.length 70&&xG2 w u gs
 | .agg [.str _,.rslc _ ps,.nils]=>xXu ps&&Nat.ble ps.length 70
 | _=>false
def zZn:AV→List AV
 | .agg [_,.rslc _ ps,_]=>ps
 | _=>[]
def zZ7:AV→AV
 | .agg [n,_,_]=>n
 | _=>.nils
def yRs (o:AV) (i:Nat):AV:=if i=900 then zZ7 o else ((zZn o)[i / 10*7+(1+i % 10)]?).getD .nils
theorem xJj {t:Toks} {u:Int} (ht:t.val (bB+1)=.int .i64 u):∀ (n:Nat) (ls:List AV),ls.length≤n→xRz u ls=true→xK t (xTh ls)=ls
 | _,[],_,_=>rfl
 | 0,_::_,h,_=>absurd h (by simp)
 | n + 1,.str s::.int i k::l,hn,h=>by
  simp only [List.length_cons] at hn
  simp only [xRz,Bool.and_eq_true] at h
  have ih:=xJj ht n l (by omega) h.2
  cases hb:eqK i .i64&&leI 2 k with
  | false=>simp only [xTh,hb,cond_false,xK,AV.subst,ih]
  | true =>
   have h1:=h.1
   rw [hb] at h1
   simp only [cond_true] at h1
   rw [kE] at h1
   have e:=eq_of_beq h1
   rw [Bool.and_eq_true] at hb
   have ei:=wP.1 hb.1
   subst e ei
   simp only [xTh,hb.1,hb.2,Bool.and_self,cond_true,xK,AV.subst,ht,ih]
theorem xJi {t:Toks} {w u:Int} (hw:t.val bB=.int .i64 w) (hu:t.val (bB+1)=.int .i64 u):∀ (n:Nat) (gs:List AV),gs.length≤n→xG2 w u gs=true→xK t (xPi gs)=gs
 | _,[],_,_=>rfl
 | 0,_::_,h,_=>absurd h (by simp)
 | n + 1,.int i k::.rslc q ls::l,hn,h=>by
  simp only [List.length_cons] at hn
  simp only [xG2,Bool.and_eq_true] at h
  have ih:=xJi hw hu n l (by omega) h.2
  have il:=xJj hu ls.length ls (Nat.le_refl _) h.1.2
  cases hb:eqK i .i64&&leI 2 k with
  | false=>simp only [xPi,hb,cond_false,xK,AV.subst,ih,il]
  | true =>
   have h1:=h.1.1
   rw [hb] at h1
   simp only [cond_true] at h1
   rw [kE] at h1
   have e:=eq_of_beq h1
   rw [Bool.and_eq_true] at hb
   have ei:=wP.1 hb.1
   subst e ei
   simp only [xPi,hb.1,hb.2,Bool.and_self,cond_true,xK,AV.subst,hw,ih,il]
end Go.Abs.Sym
end
end
