/- The search in slices with a function; Clone; lib.Find. -/
import Derived.Test.YtipcmdllhllolaaGreatDoorK28
import Derived.KernelRfl
import Derived.Test.YtipcmdllhllolaaGreatDoorK05
noncomputable section
section
namespace Go.Abs.Sym
open Go.Abs.T
open Go.Proofs
section
variable {h:H}
theorem bin_lss (a b:Int):binAV .lss .one (.int .i64 a) (.int .i64 b)=some (.bool (ltI a b)):=rfl
theorem st_len_slc (v:AV):stepA h (.len .slc) [v]=match lenVal h .slc v with | some v=>.val v h | none=>.bad:=rfl
end
theorem View.ext {h h':H} {sz:Nat} {sv:AV} {es:List (List AV)} (hv:View h sz sv es) (he:Ext h h'):View h' sz sv es :=
  ⟨hv.1,fun h'' e k x hk=>hv.2 h'' (he.trans e) k x hk⟩
theorem ltI_nat (a b:Nat):ltI (.ofNat a) (.ofNat b)=Nat.blt a b:=rfl
theorem idx_loop {X:Ctx} {call:CallF} {sz:Nat} {sv fv:AV} {p:List AV→Bool} {h0:H} {es:List (List AV)} (hv:View h0 sz sv es) (hlen:es.length<1000000)
    (hc:∀ h,Ext h0 h→∀ e∈es,∃ h',call fv [.agg e] h=.ret (.bool (p e)) h'∧Ext h h') :
    ∀ (m k:Nat) (h:H) (fr:Tr AV) (s:St) (fuel:Nat),es.length=k+m→m<fuel→Ext h0 h→fr.get t0=some sv→fr.get t1=some fv→fr.get t7=some (.int .i64 (.ofNat es.length))→fr.get t8=some (.int .i64 (.ofNat k)) →
      ∃ h' fr',Ext h0 h' ∧
        ((idxOf p (es.drop k) k=.negSucc 0∧iterA (execA X call (idxBody sz)) fuel { s with fr:=fr,h:=h }=.exit 0 { s with fr:=fr',h:=h' }) ∨
         (iterA (execA X call (idxBody sz)) fuel { s with fr:=fr,h:=h }=.ret { s with fr:=fr',h:=h' }∧fr'.get t4=some (.int .i64 (idxOf p (es.drop k) k)))):=by
  intro m
  induction m with
  | zero =>
    intro k h fr s fuel hk hf he h0' h1 h7 h8
    obtain ⟨fuel,rfl⟩:∃ f,fuel=f+1:=⟨fuel - 1,by omega⟩
    have hb:Nat.blt k es.length=false:=by
      cases hh:Nat.blt k es.length with
      | false=>rfl
      | true=>have:=Nat.le_of_ble_eq_true hh; omega
    have hR:=Eq.refl (execA X call (idxBody sz) { s with fr:=fr,h:=h })
    conv at hR =>
      rhs
      simp (config:={ decide:=true }) only [idxBody,execA,opsA,wantedA,evalAll,evalA,oneA,st_bin,St.put,gp,h7,h8,bin_lss,ltI_nat,hb,if_true,if_false,reduceIte]
    exact ⟨h,_,he,.inl ⟨by rw [List.drop_of_length_le (by omega)]; rfl,by simp only [iterA,hR]; rfl⟩⟩
  | succ m ih =>
    intro k h fr s fuel hk hf he h0' h1 h7 h8
    obtain ⟨fuel,rfl⟩:∃ f,fuel=f+1:=⟨fuel - 1,by omega⟩
    have hklt:k<es.length:=by omega
    have hb:Nat.blt k es.length=true:=Nat.ble_eq_true_of_le hklt
    have hek:es[k]?=some es[k]:=List.getElem?_eq_getElem hklt
    obtain ⟨pp,hi,hl⟩:=hv.2 h he k _ hek
    obtain ⟨h',hcall,hext⟩:=hc h he es[k] (List.getElem_mem hklt)
    have hdrop:es.drop k=es[k]::es.drop (k+1):=List.drop_eq_getElem_cons hklt
    have hw:wrapA .i64 (Int.ofNat k+Int.ofNat 1)=.ofNat (k+1):=by
      rw [show Int.ofNat k+Int.ofNat 1=Int.ofNat (k+1) from rfl]
      exact wrap_small (by omega)
    cases hp:p es[k] with
    | true =>
      rw [hp] at hcall
      have hR:=Eq.refl (execA X call (idxBody sz) { s with fr:=fr,h:=h })
      conv at hR =>
        rhs
        simp (config:={ decide:=true }) only [idxBody,execA,opsA,wantedA,evalAll,evalA,oneA,st_mov,st_bin,st_indexAddr,st_load,st_call,St.put,gp,h0',h1,h7,h8,bin_lss,ltI_nat,hb,hi,hl,hcall,if_true,if_false,reduceIte]
      refine ⟨h',_,he.trans hext,.inr ⟨by simp only [iterA,hR]; rfl,?_⟩⟩
      rw [hdrop]
      simp only [idxOf,hp,cond_true]
      exact (gp _ _ _ _).trans (if_pos rfl)
    | false =>
      rw [hp] at hcall
      have:=ih (k+1) h' (((((((((((fr.put t9 (AV.bool true)).put t10 (AV.int IntKind.i64 (Int.ofNat k))).put t5 (AV.int IntKind.i64 (Int.ofNat k))).put t11 fv).put t12 sv).put t13 (AV.int IntKind.i64 (Int.ofNat k))).put t14 pp).put t15 (AV.agg es[k])).put t16 (AV.bool false)).put t18 (.int .i64 (.ofNat (k+1)))).put t8 (.int .i64 (.ofNat (k+1)))) s fuel (by omega) (by omega) (he.trans hext)
        (by simp (config:={ decide:=true }) only [gp,h0',if_false]) (by simp (config:={ decide:=true }) only [gp,h1,if_false]) (by simp (config:={ decide:=true }) only [gp,h7,if_false]) (by simp (config:={ decide:=true }) only [gp,if_true,reduceIte])
      have hstep:iterA (execA X call (idxBody sz)) (fuel+1) { s with fr:=fr,h:=h }=iterA (execA X call (idxBody sz)) fuel { s with h:=h',fr:=(((((((((((fr.put t9 (AV.bool true)).put t10 (AV.int IntKind.i64 (Int.ofNat k))).put t5 (AV.int IntKind.i64 (Int.ofNat k))).put t11 fv).put t12 sv).put t13 (AV.int IntKind.i64 (Int.ofNat k))).put t14 pp).put t15 (AV.agg es[k])).put t16 (AV.bool false)).put t18 (.int .i64 (.ofNat (k+1)))).put t8 (.int .i64 (.ofNat (k+1)))) }:=by
        have hbody:execA X call (idxBody sz) { s with fr:=fr,h:=h }=.nrm { s with h:=h',fr:=(((((((((((fr.put t9 (AV.bool true)).put t10 (AV.int IntKind.i64 (Int.ofNat k))).put t5 (AV.int IntKind.i64 (Int.ofNat k))).put t11 fv).put t12 sv).put t13 (AV.int IntKind.i64 (Int.ofNat k))).put t14 pp).put t15 (AV.agg es[k])).put t16 (AV.bool false)).put t18 (.int .i64 (.ofNat (k+1)))).put t8 (.int .i64 (.ofNat (k+1)))) }:=by
          simp (config:={ decide:=true }) only [idxBody,execA,opsA,wantedA,evalAll,evalA,oneA,st_mov,st_bin,st_indexAddr,st_load,st_call,St.put,gp,h0',h1,h7,h8,bin_lss,bin_add,hw,ltI_nat,hb,hi,hl,hcall,if_true,if_false]
        simp only [iterA,hbody]
      rw [hstep,hdrop]
      simp only [idxOf,hp,cond_false]
      exact this
theorem idx_ok {X:Ctx} {n:Nat} {i:Pth} {sz:Nat} {sv fv:AV} {p:List AV→Bool} {h0:H} {es:List (List AV)} (hs:X.sums i [sv,fv] h0=none) (hF:X.funcs.get i=some (idxF sz)) (hfu:X.fuel=100000) (hv:View h0 sz sv es) (hlen:es.length<90000)
    (hc:∀ h,Ext h0 h→∀ e∈es,∃ h',callN X n fv [.agg e] h=.ret (.bool (p e)) h'∧Ext h h') :
    ∃ h',callN X (n+1) (.fn i [] []) [sv,fv] h0=.ret (.int .i64 (idxOf p es 0)) h'∧Ext h0 h':=by
  rw [call_fn (F:=idxF sz) hs hF]
  have h7:=hv.1
  have hloop:=idx_loop (X:=X) (call:=callN X n) hv (by omega) hc es.length 0 h0
    (((((frameOf .e [sv,fv] .lf).put t4 i0).put t6 sv).put t7 (.int .i64 (.ofNat es.length))).put t8 i0) ⟨.lf,[],h0,.no,none,i⟩ X.fuel (by omega) (by rw [hfu]; omega) (Ext.refl _)
    (by simp +decide only [gp,frameOf,Pth.succ,if_true,if_false]) (by simp +decide only [gp,frameOf,Pth.succ,if_true,if_false])
    (by simp +decide only [gp,if_true,if_false]) (by simp +decide only [gp,if_true,if_false])
  obtain ⟨h',fr',he,hor⟩:=hloop
  have hg0:(frameOf .e [sv,fv] .lf).get t0=some sv:=by simp +decide only [gp,frameOf,Pth.succ,if_true,if_false]
  have hd:es.drop 0=es:=rfl
  rw [hd] at hor
  refine ⟨h',?_,he⟩
  rcases hor with ⟨hn,hit⟩ | ⟨hit,hg⟩
  · rw [hn]
    simp +decide only [idxF,execA,opsA,wantedA,evalAll,evalA,oneA,st_mov,st_len_slc,St.put,gp,List.nil_append,List.append_nil,hg0,h7,hit,if_true,if_false,leaveA,resultA,resultsA]
    simp +decide only [Nat.beq,cond_true,gp,if_true,dfrsA]
  · simp +decide only [idxF,execA,opsA,wantedA,evalAll,evalA,oneA,st_mov,st_len_slc,St.put,gp,List.nil_append,List.append_nil,hg0,h7,hit,if_true,if_false,leaveA,dfrsA,resultA,resultsA,hg]
theorem big_lt {n:Nat} (h:n<35184372088832):(bigBytes≤n)=False:=eq_false (Nat.not_le.2 h)
theorem clone_sum {α:Type} {f:α→List AV} (hf:∀ a,(f a).length=7) (hz:∀ a,frzs (f a)=true) (s:Sl α) (hl:s.l.length<90000):∃ s':Sl α,s'.l=s.l∧∀ h,K1.sums t110 [slV f s] h=some (slV f s'):=by
  have hs:∀ xs,K0.sums t110 xs h0=none:=fun _=>rfl
  have hF:K0.funcs.get t110=some c110:=rfl
  obtain ⟨kd,l⟩:=s
  cases l with
  | nil =>
    match kd with
    | 0=>exact ⟨⟨0,[]⟩,rfl,fun h=>by rw [show slV f ⟨0,[]⟩=.nils from rfl]; kernel_rfl⟩
    | k+1=>exact ⟨⟨1,[]⟩,rfl,fun h=>by rw [show slV f ⟨k+1,[]⟩=.rslc 0 [] from rfl,show slV f ⟨1,[]⟩=.rslc 0 [] from rfl]; kernel_rfl⟩
  | cons a l =>
    refine ⟨⟨kd,a::l⟩,rfl,?_⟩
    have hv:slV f ⟨kd,a::l⟩=.rslc (l.length+1) (f a++l.flatMap f):=rfl
    have hlen:(f a++l.flatMap f).length=(l.length+1)*7:=len_flat hf (a::l)
    have htk:=takeD_all hlen
    simp only [List.length_cons] at hl
    have hb1:=big_lt (n:=(l.length+1)*56) (by omega)
    have hb2:=big_lt (n:=l.length+1) (by omega)
    have hb3:(l.length+1≤0)=False:=eq_false (by omega)
    have hb4:(l.length+1=0)=False:=eq_false (by omega)
    have hr:Ret (callN K0 50 (.fn t110 [] []) [slV f ⟨kd,a::l⟩] h0) (fun v h1=>deep 8 h1 v=.rslc (l.length+1) ((f a++l.flatMap f).map (deep 7 h1))):=by
      rw [call_fn (hs _) hF,hv,show h0=⟨up Pth.e 0,.lf,.lf⟩ from rfl]
      simp +decide only [c110,execA,opsA,wantedA,evalAll,evalA,oneA,st_mov,st_bin,st_buildSl,st_append,H.cellsAt,H.newB,tk_0,fillS,binAV,eqAV,St.put,gp,frameOf,List.nil_append,List.append_nil,if_true,if_false,cond_true,cond_false,Nat.zero_add,Nat.add_zero,Nat.zero_mul,up_succ,nbeq,nble,decide_true,decide_false,Nat.reduceAdd,Bool.or_false,ret_iff,leaveA,dfrsA,resultA,resultsA,Option.map_some,appendA,lenA,firstA,htk,hb1,hb2,hb3,hb4,Nat.le_refl,Nat.zero_add,List.nil_append,deep]
    obtain ⟨v,h1,hc,hd⟩:=hr
    rw [deeps_frz _ _ _ (by rw [frzs_append,hz,frzs_flat hz]; rfl),← hv] at hd
    intro h
    have:=over_fz (fz:=[t61,t59,t47,t60,t27,t30,t74,t24,t19,t21,t33,t110,t111,t67]) (dp:=[]) rfl hc (by rw [frzs,frz_slV hz]; rfl) (by rw [hd]; exact frz_slV hz _) h
    rw [hd] at this
    exact this
def plc {α:Type} (p:α→Bool):List α→Nat→Int
  | [],_=>.negSucc 0
  | a::l,k=>bif p a then .ofNat k else plc p l (k+1)
theorem plc_find {α:Type} (p:α→Bool):∀ (l:List α) (j:Nat),(plc p l j=.negSucc 0∧l.find? p=none)∨∃ k x,plc p l j=.ofNat (j+k)∧l[k]?=some x∧l.find? p=some x
  | [],j=>.inl ⟨rfl,rfl⟩
  | a :: l,j=>by
    cases ha:p a with
    | true=>exact .inr ⟨0,a,by simp only [plc,ha,cond_true]; rfl,rfl,by simp [ha]⟩
    | false =>
      rcases plc_find p l (j+1) with ⟨h1,h2⟩ | ⟨k,x,h1,h2,h3⟩
      · exact .inl ⟨by simp only [plc,ha,cond_false]; exact h1,by simp [ha,h2]⟩
      · exact .inr ⟨k+1,x,by simp only [plc,ha,cond_false,h1]; congr 1; omega,h2,by simp [ha,h3]⟩
def findP (T:TypD) (nm:List Nat):Option PadD:=T.pads.l.find? (fun p=>eqS p.nm nm)
def pad0:PadD:=⟨[],0,⟨0,[]⟩,0,0,0,0⟩
def resP:Option PadD→AV
  | none=>.tup [.agg (padC pad0),.bool false]
  | some p=>.tup [.agg (padC p),.bool true]
theorem Ext.up {h h':H} (e:Ext h h'):∃ j,h'.next=up h.next j:=⟨h'.next.num - h.next.num,Pth.num_inj (by rw [up_num]; have:=e.next; omega)⟩
theorem View_slV {α:Type} {f:α→List AV} {sz:Nat} (hf:∀ a,(f a).length=sz) (hsz:0<sz) (h:H) (s:Sl α):View h sz (slV f s) (s.l.map f):=by
  refine ⟨by rw [len_slV,List.length_map],fun h' _ k e hk => ?_⟩
  rw [List.getElem?_map,Option.map_eq_some_iff] at hk
  obtain ⟨a,ha,rfl⟩:=hk
  exact ⟨_,at_slV hf hsz ha,by simp only [loadA,partA,tk_app (hf a),Option.map_some]⟩
theorem idxOf_map {α:Type} {f:α→List AV} {p:List AV→Bool} {q:α→Bool} (h:∀ a,p (f a)=q a):∀ (l:List α) (k:Nat),idxOf p (l.map f) k=plc q l k
  | [],_=>rfl
  | a::l,k=>by simp only [List.map_cons,idxOf,plc,h,idxOf_map h l]
def hdIs (nm:List Nat):List AV→Bool
  | .str s::_=>eqS s nm
  | _=>false
theorem Old.ne {n a:Pth} (h:Old n a) (k:Nat):(a=up n k)=False:=by
  refine eq_false fun e => ?_
  have:=congrArg Pth.num e
  rw [up_num] at this
  unfold Old at h
  omega
theorem Old.ne' {n a:Pth} (h:Old n a) (k:Nat):(up n k=a)=False:=by
  refine eq_false fun e => ?_
  have:=congrArg Pth.num e
  rw [up_num] at this
  unfold Old at h
  omega
theorem clos27 {X:Ctx} {n:Nat} {i:Pth} (hs:∀ xs h,X.sums i xs h=none) (hF:X.funcs.get i=some c118) {b:Pth} {nm s:List Nat} {r:List AV} {h:H} (hb:b.num<h.next.num) (hg:h.t.get b=some (.cells [.str nm] false)) :
    callN X (n+1) (.fn i [] [.ptr b 0]) [.agg (.str s::r)] h=.ret (.bool (eqS s nm)) (h.newB (.cells (.str s::r) false)):=by
  rw [call_fn (F:=c118) (hs _ _) hF]
  have hne:(b=h.next)=False:=eq_false (fun e=>by rw [e] at hb; omega)
  have hne':(h.next=b)=False:=eq_false (fun e=>by rw [e] at hb; omega)
  simp +decide only [c118,execA,opsA,wantedA,evalAll,evalA,oneA,st_mov,st_box,st_load,st_bin,st_fieldAddr,ld_ptr,H.cellsAt,H.newB,partA,tk_0,tk_c,cl_agg,binAV,eqAV,St.put,gp,frameOf,Pth.succ,List.nil_append,List.cons_append,if_true,if_false,Nat.add_zero,leaveA,dfrsA,resultA,resultsA,Option.map_some,hg,hne]
theorem idx_nm {X:Ctx} {n:Nat} {i c:Pth} {sz:Nat} {sv:AV} {b:Pth} {nm:List Nat} {p:Pth} {j:Nat} {t:Tr AB} {es:List (List AV)}
    (hs:∀ xs h,X.sums i xs h=none) (hF:X.funcs.get i=some (idxF sz)) (hsc:∀ xs h,X.sums c xs h=none) (hFc:X.funcs.get c=some c118) (hfu:X.fuel=100000)
    (hv:View ⟨up p j,t,.lf⟩ sz sv es) (hlen:es.length<90000) (hes:∀ e∈es,∃ s r,e=.str s::r) (hb:b.num<(up p j).num) (hg:t.get b=some (.cells [.str nm] false)) :
    ∃ q t',callN X (n+2) (.fn i [] []) [sv,.fn c [] [.ptr b 0]] ⟨up p j,t,.lf⟩=.ret (.int .i64 (idxOf (hdIs nm) es 0)) ⟨up q 0,t',.lf⟩∧(∀ id:Pth,id.num<(up p j).num→t'.get id=t.get id)∧(up p j).num≤q.num:=by
  obtain ⟨h',hc,he⟩:=idx_ok (X:=X) (n:=n+1) (i:=i) (sv:=sv) (fv:=.fn c [] [.ptr b 0]) (p:=hdIs nm) (hs _ _) hF hfu hv hlen (fun h hx e hm=>by
    obtain ⟨s,r,rfl⟩:=hes e hm
    refine ⟨_,clos27 hsc hFc (h:=h) (Nat.lt_of_lt_of_le hb hx.next) ((hx.t b hb).trans hg),Ext.newB _ _⟩)
  obtain ⟨nx,t',ro⟩:=h'
  have hro:ro=.lf:=he.ro
  subst hro
  exact ⟨nx,t',hc,he.t,he.next⟩
theorem len_map {α β:Type} (f:α→β) (l:List α):(l.map f).length=l.length:=List.length_map ..
theorem idx_nm' {X:Ctx} {n:Nat} {i c:Pth} {sz:Nat} {sv:AV} {b:Pth} {nm:List Nat} {p:Pth} {j:Nat} {t:Tr AB} {α:Type} {f:α→List AV} {q:α→Bool} {l:List α} {R:CRes}
    (hs:∀ xs h,X.sums i xs h=none) (hF:X.funcs.get i=some (idxF sz)) (hsc:∀ xs h,X.sums c xs h=none) (hFc:X.funcs.get c=some c118) (hfu:X.fuel=100000)
    (hv:View ⟨up p j,t,.lf⟩ sz sv (l.map f)) (hlen:l.length<90000) (hes:∀ a,∃ s r,f a=.str s::r) (hpq:∀ a,hdIs nm (f a)=q a) (hb:b.num<(up p j).num) (hg:t.get b=some (.cells [.str nm] false))
    (hR:callN X (n+2) (.fn i [] []) [sv,.fn c [] [.ptr b 0]] ⟨up p j,t,.lf⟩=R) :
    ∃ r t',R=.ret (.int .i64 (plc q l 0)) ⟨up r 0,t',.lf⟩∧(∀ id:Pth,id.num<(up p j).num→t'.get id=t.get id)∧(up p j).num≤r.num:=by
  rw [← idxOf_map (f:=f) (p:=hdIs nm) hpq,← hR]
  exact idx_nm hs hF hsc hFc hfu hv (by rw [len_map]; exact hlen) (fun e hm=>by
    obtain ⟨a,_,rfl⟩:=List.mem_map.1 hm
    exact hes a) hb hg
theorem clone28 (s:Sl Ed) (hl:s.l.length<90000):∃ s':Sl Ed,s'.l=s.l∧∀ n h,callN K1 (n+1) (.fn t110 [] []) [slV edC s] h=.ret (slV edC s') h:=by
  obtain ⟨s',h1,h2⟩:=clone_sum (f:=edC) len_ed frz_ed s hl
  exact ⟨s',h1,fun n h=>call_sum (by rw [List.nil_append,List.append_nil]; exact h2 h)⟩
theorem find8 (T:TypD) (nm:List Nat) (hl:T.pads.l.length<90000) (he:∀ p∈T.pads.l,p.es.l.length<90000):Ret (callN K1 50 (.fn t75 [] []) [.agg (tyC T),.str nm] h0)
    (fun v _=>(findP T nm=none∧v=resP none)∨∃ (p:PadD) (s':Sl Ed),findP T nm=some p∧s'.l=p.es.l∧v=resP (some { p with es:=s' })):=by
  have hs:∀ xs,K1.sums t75 xs h0=none:=fun _=>rfl
  have hF:K1.funcs.get t75=some c75:=rfl
  refine begin2 (hs _) hF fun fr t ga gb => ?_
  simp only [tyC] at ga
  have hk1:ltI (.negSucc 0) (.ofNat 0)=true:=rfl
  have hk2:∀ k,ltI (.ofNat k) (.ofNat 0)=false:=fun _=>rfl
  simp +decide only [c75,execA,opsA,wantedA,evalAll,evalA,oneA,st_mov,st_alloc,st_box,st_load,st_call,st_mkFn,st_fieldAddr,st_build,ld_ptr,H.cellsAt,H.newB,partA,tk_s,tk_0,tk_c,fillA,cl_agg,cl_str,St.put,gp,if_true,if_false,Nat.zero_add,up_succ,List.drop,List.take,Nat.reduceAdd,leaveA,resultA,resultsA,Option.map_some,ga,gb]
  generalize hR:callN K1 49 (g t117) _ _=R
  obtain ⟨q,t',rfl,hold,hq⟩:=idx_nm' (f:=padC) (q:=fun p=>eqS p.nm nm) (fun _ _=>rfl) rfl (fun _ _=>rfl) rfl rfl (View_slV len_pad (by decide) _ _) hl (fun _=>⟨_,_,rfl⟩) (fun _=>rfl) (by decide) (by simp +decide only [gp,if_true,if_false]) hR
  have a0:=hold (up .e 0) (by decide)
  have a2:=hold (up .e 2) (by decide)
  simp +decide only [gp,if_true,if_false] at a0 a2
  have n0:=Old.ne (n:=q) (a:=up .e 0) (Nat.lt_of_lt_of_le (by decide) hq)
  have n2:=Old.ne (n:=q) (a:=up .e 2) (Nat.lt_of_lt_of_le (by decide) hq)
  have m2:=Old.ne' (n:=q) (a:=up .e 2) (Nat.lt_of_lt_of_le (by decide) hq)
  rcases plc_find (fun p:PadD=>eqS p.nm nm) T.pads.l 0 with ⟨h1,h2⟩ | ⟨k,x,h1,h2,h3⟩
  · simp +decide only [h1,st_mov,st_store,st_bin,ld_ptr,H.cellsAt,partA,tk_0,tk_c,storeA,setAt,ones,cl_agg,on_int,on_str,on_nils,binAV,gp,if_true,if_false,cond_true,Nat.zero_add,List.length,nbeq,decide_true,Nat.reduceAdd,Bool.and_true,eqK,kindNo,ret_iff,dfrsA,Option.map_some,hk1,a2]
    exact .inl ⟨h2,rfl⟩
  · rw [Nat.zero_add] at h1
    have ia:=at_slV (f:=padC) (sz:=7) (fun _=>rfl) (by decide) h2
    obtain ⟨s',hs1,hs2⟩:=clone28 x.es (he x (List.mem_of_getElem? h2))
    simp +decide only [h1,st_mov,st_load,st_store,st_bin,st_call,st_fieldAddr,st_indexAddr,ld_ptr,ld_rs,H.cellsAt,partA,tk_s,tk_0,tk_c,storeA,setAt,ones,cl_agg,on_int,on_str,on_slV,cl_slV,binAV,gp,List.nil_append,List.cons_append,if_true,if_false,cond_true,Nat.zero_add,up_succ,List.length,nbeq,decide_true,Nat.reduceAdd,Bool.and_true,eqK,kindNo,ret_iff,dfrsA,Option.map_some,hk2,a0,a2,n2,ia,padC,hs2]
    exact .inr ⟨x,s',h3,hs1,rfl⟩
end Go.Abs.Sym
end
section
namespace Go.Abs.Sym
open Go.Abs.T
open Go.Proofs
theorem on_pad (p:PadD):ones (padC p)=true:=by simp only [padC,ones,on_slV]; rfl
theorem on_gate (p:GateD):ones (gateC p)=true:=by simp only [gateC,ones,on_slV]; rfl
structure Small (T:TypD):Prop where
  pads:T.pads.l.length<90000
  gates:T.gates.l.length<90000
  es:∀ p∈T.pads.l,p.es.l.length<90000
  legs:∀ g∈T.gates.l,g.legs.l.length<90000
theorem Grow.lt {sz:Nat} {t:Tr AB} {lo hi nb:Nat} {pv:AV} {rs:List (List AV)} (h:Grow sz t lo hi nb pv rs):nb<hi∨nb=0:=by
  rcases h with ⟨_,_,h⟩ | ⟨_,_,_,_,h⟩
  · exact .inr h
  · exact .inl h
theorem z_ne {i j:Nat} (h:i<j):(i=j)=False:=eq_false (by omega)
theorem z_ne' {i j:Nat} (h:i<j) (c:Nat):(i=j+c)=False:=eq_false (by omega)
def PadK (p q:PadD):Prop:=∃ s:Sl Ed,s.l=p.es.l∧q={ p with es:=s }
def GateK (p q:GateD):Prop:=∃ s:Sl Lg,s.l=p.legs.l∧q={ p with legs:=s }
theorem clone28' (s:Sl Ed) (hl:s.l.length<90000):∃ s':Sl Ed,s'.l=s.l∧∀ n h,callN K2 (n+1) (.fn t110 [] []) [slV edC s] h=.ret (slV edC s') h:=by
  obtain ⟨s',h1,h2⟩:=clone_sum (f:=edC) len_ed frz_ed s hl
  exact ⟨s',h1,fun n h=>call_sum (by rw [List.nil_append,List.append_nil,sums2_1 _ _ _ rfl]; exact h2 h)⟩
theorem clone32_sum (s:Sl Lg) (hl:s.l.length<90000):∃ s':Sl Lg,s'.l=s.l∧∀ h,K1.sums t111 [slV lgC s] h=some (slV lgC s'):=by
  have hs:∀ xs,K0.sums t111 xs h0=none:=fun _=>rfl
  have hF:K0.funcs.get t111=some c111:=rfl
  obtain ⟨kd,l⟩:=s
  cases l with
  | nil =>
    match kd with
    | 0=>exact ⟨⟨0,[]⟩,rfl,fun h=>by rw [show slV lgC ⟨0,[]⟩=.nils from rfl]; kernel_rfl⟩
    | k+1=>exact ⟨⟨1,[]⟩,rfl,fun h=>by rw [show slV lgC ⟨k+1,[]⟩=.rslc 0 [] from rfl,show slV lgC ⟨1,[]⟩=.rslc 0 [] from rfl]; kernel_rfl⟩
  | cons a l =>
    refine ⟨⟨kd,a::l⟩,rfl,?_⟩
    have hv:slV lgC ⟨kd,a::l⟩=.rslc (l.length+1) (lgC a++l.flatMap lgC):=rfl
    have hlen:(lgC a++l.flatMap lgC).length=(l.length+1)*2:=len_flat len_lg (a::l)
    have htk:=takeD_all hlen
    simp only [List.length_cons] at hl
    have hb1:=big_lt (n:=(l.length+1)*24) (by omega)
    have hb2:=big_lt (n:=l.length+1) (by omega)
    have hb3:(l.length+1≤0)=False:=eq_false (by omega)
    have hb4:(l.length+1=0)=False:=eq_false (by omega)
    have hr:Ret (callN K0 50 (.fn t111 [] []) [slV lgC ⟨kd,a::l⟩] h0) (fun v h1=>deep 8 h1 v=.rslc (l.length+1) ((lgC a++l.flatMap lgC).map (deep 7 h1))):=by
      rw [call_fn (hs _) hF,hv,show h0=⟨up Pth.e 0,.lf,.lf⟩ from rfl]
      simp +decide only [c111,execA,opsA,wantedA,evalAll,evalA,oneA,st_mov,st_bin,st_buildSl,st_append,H.cellsAt,H.newB,tk_0,fillS,binAV,eqAV,St.put,gp,frameOf,List.nil_append,List.append_nil,if_true,if_false,cond_true,cond_false,Nat.zero_add,Nat.add_zero,Nat.zero_mul,up_succ,nbeq,nble,decide_true,decide_false,Nat.reduceAdd,Bool.or_false,ret_iff,leaveA,dfrsA,resultA,resultsA,Option.map_some,appendA,lenA,firstA,htk,hb1,hb2,hb3,hb4,Nat.le_refl,Nat.zero_add,List.nil_append,deep]
    obtain ⟨v,h1,hc,hd⟩:=hr
    rw [deeps_frz _ _ _ (by rw [frzs_append,frz_lg,frzs_flat frz_lg]; rfl),← hv] at hd
    intro h
    have:=over_fz (fz:=[t61,t59,t47,t60,t27,t30,t74,t24,t19,t21,t33,t110,t111,t67]) (dp:=[]) rfl hc (by rw [frzs,frz_slV frz_lg]; rfl) (by rw [hd]; exact frz_slV frz_lg _) h
    rw [hd] at this
    exact this
theorem clone32' (s:Sl Lg) (hl:s.l.length<90000):∃ s':Sl Lg,s'.l=s.l∧∀ n h,callN K2 (n+1) (.fn t111 [] []) [slV lgC s] h=.ret (slV lgC s') h:=by
  obtain ⟨s',h1,h2⟩:=clone32_sum s hl
  exact ⟨s',h1,fun n h=>call_sum (by rw [List.nil_append,List.append_nil,sums2_1 _ _ _ rfl]; exact h2 h)⟩
inductive Cps {α:Type} (K:α→α→Prop):List α→List α→Prop where
  | nil:Cps K [] []
  | snoc {l m:List α} {a b:α}:Cps K l m→K a b→Cps K (l++[a]) (m++[b])
theorem Cps.len {α:Type} {K:α→α→Prop} {l m:List α} (h:Cps K l m):l.length=m.length:=by
  induction h with
  | nil=>rfl
  | snoc _ _ ih=>simp only [List.length_append,ih,List.length_cons,List.length_nil]
def GetI (T:TypD) (nm:List Nat) (_j0 b ri:Nat) (av kv:AV) (t0':Tr AB) (m:Nat) (s:St):Prop :=
  ∃ fr j t nb pv ps,s=⟨fr,[],⟨up .e j,t,.lf⟩,.no,none,t66⟩∧b<j∧ps.length+m=T.pads.l.length∧Cps PadK (T.pads.l.take ps.length) ps ∧
    fr.get t0=some av∧fr.get t6=some kv∧fr.get t4=some (.ptr (up .e ri) 0)∧fr.get t7=some (.ptr (up .e b) 0)∧fr.get t24=some (slV padC T.pads)∧fr.get t25=some (.int .i64 (.ofNat T.pads.l.length))∧fr.get t26=some (.int .i64 (.ofNat ps.length)) ∧
    t.get (up .e b)=some (.cells [.str nm,pv,.nils] false)∧Grow 7 t (b+1) j nb pv (ps.map padC)∧(∀ i,i<b→t.get (up .e i)=t0'.get (up .e i))
set_option maxHeartbeats 1000000 in
theorem get_round (T:TypD) (sm:Small T) (nm:List Nat) (j0 b ri:Nat) (av kv:AV) (t0':Tr AB) (m:Nat) (s:St) (h:GetI T nm j0 b ri av kv t0' m s) :
    Stp (GetI T nm j0 b ri av kv t0') (fun o=>∃ s,o=.exit 0 s∧GetI T nm j0 b ri av kv t0' 0 s) m (execA K2 (callN K2 49) c66_l0 s):=by
  obtain ⟨fr,j,t,nb,pv,ps,rfl,hj,hk,hc,f0,f6,f4,g7,g24,g25,g26,ab,hg,hold⟩:=h
  cases m with
  | zero =>
    have hkn:(ps.length<T.pads.l.length)=False:=eq_false (by omega)
    simp +decide only [c66_l0,execA,opsA,wantedA,evalAll,evalA,oneA,st_bin,binAV,St.put,gp,if_true,cond_true,nbeq,decide_true,decide_false,eqK,kindNo,g25,g26,ltI_dec,hkn,stp_e]
    refine ⟨_,rfl,_,j,t,nb,pv,ps,rfl,hj,hk,hc,?_,?_,?_,?_,?_,?_,?_,ab,hg,hold⟩
    all_goals simp +decide only [gp,f0,f6,f4,g7,g24,g25,g26,if_false]
  | succ m =>
    have hkn0:ps.length<T.pads.l.length:=by omega
    have hkn:=eq_true hkn0
    have hpl:=sm.pads
    have hw:=wr_add ps.length 1 (by omega)
    obtain ⟨x,hka⟩:∃ x,T.pads.l[ps.length]?=some x:=⟨_,List.getElem?_eq_getElem hkn0⟩
    have ia:=at_slV (f:=padC) (sz:=7) len_pad (by decide) hka
    obtain ⟨s',hs1,hs2⟩:=clone28' x.es (sm.es x (List.mem_of_getElem? hka))
    have zb:=z_ne (i:=b) (j:=j) (by omega)
    have yb:=z_ne' (i:=b) (j:=j) (by omega)
    simp +decide only [c66_l0,execA,opsA,wantedA,evalAll,evalA,oneA,st_alloc,st_load,st_store,st_bin,st_call,st_fieldAddr,st_indexAddr,st_buildSl,st_append,ld_ptr,ld_rs,H.cellsAt,H.newB,partA,tk_s,tk_0,tk_c,storeA,setAt,fillS,ones,cl_agg,on_int,on_str,on_slV,cl_slV,binAV,St.put,gp,List.nil_append,List.cons_append,if_true,if_false,cond_true,Nat.zero_add,Nat.zero_mul,up_succ,up_inj,List.length,nbeq,nble,decide_true,Nat.reduceAdd,eqK,kindNo,Option.map_some,Bool.and_self,Nat.add_assoc,padC,zb,g7,g24,g25,g26,ltI_dec,hkn,ia,hs2,ab]
    generalize hA:appendA _ 7 80 _ _=A
    generalize hTT:Tr.put _ (up .e (j+1)) _=TT at hA
    have k0:TT.get (up .e (j+1))=some (.cells (padC { x with es:=s' }) false):=by
      rw [← hTT,gp,if_pos rfl]
      rfl
    have kold:∀ i,i<j→TT.get (up .e i)=t.get (up .e i):=fun i hi=>by
      rw [← hTT]
      simp +decide (disch:=omega) only [gp,up_ne,if_false]
    have hg2:Grow 7 TT (b+1) (j+2) nb pv (ps.map padC):=hg.keep (by omega) (fun _ h=>kold nb h)
    have k2:(ps.map padC).length<1000000:=by rw [len_map]; omega
    have k3:b+1≤j+2:=by omega
    have k4:∀ r∈ps.map padC,r.length=7:=fun r h=>by
      obtain ⟨p,_,rfl⟩:=List.mem_map.1 h
      rfl
    have ap:=Grow.append hg2 hA k0 (len_pad _) (on_pad _) k4 (by decide) k2 k3
    obtain ⟨t2,hA4,b1,b2,b3⟩:=ap
    subst hA4
    have rb:=(b2 b (by omega) (fun _ _=>by omega)).trans ((kold b (by omega)).trans ab)
    simp +decide only [st_mov,st_store,st_bin,st_fieldAddr,storeA,setAt,ones,on_slc,cl_slc,binAV,gp,if_true,if_false,cond_true,Nat.zero_add,List.length,nbeq,decide_true,Nat.reduceAdd,eqK,kindNo,Option.map_some,Bool.and_self,Nat.add_assoc,g7,g26,rb,hw,stp_n]
    have hll:(ps++[{ x with es:=s' }]).length=ps.length+1:=by rw [List.length_append]; rfl
    have hkb:∀ X:AB,∀ i,i≠b→(t2.put (up .e b) X).get (up .e i)=t2.get (up .e i):=fun X i hi=>by
      rw [gp,if_neg (fun e=>hi (by rw [up_inj] at e; exact e))]
    have hcp:Cps PadK (T.pads.l.take (ps++[{ x with es:=s' }]).length) (ps++[{ x with es:=s' }]):=by
      rw [hll,List.take_add_one,hka]
      exact .snoc hc ⟨s',hs1,rfl⟩
    have hmp:(ps++[{ x with es:=s' }]).map padC=ps.map padC++[padC { x with es:=s' }]:=by rw [List.map_append]; rfl
    refine ⟨m,by omega,_,j+3,_,j+2,_,ps++[{ x with es:=s' }],rfl,by omega,by omega,hcp,?_,?_,?_,?_,?_,?_,?_,(gp _ _ _ _).trans (if_pos rfl),?_,fun i hi => ?_⟩
    any_goals simp +decide (disch:=omega) only [gp,f0,f6,f4,g7,g24,g25,hll,if_true,if_false]
    · rw [hmp]
      exact b3.keep (Nat.le_refl _) (fun _ _=>hkb _ _ (by omega))
    · rw [if_neg (fun e=>by rw [up_inj] at e; omega)]
      exact (b2 i (by omega) (fun h1 _=>by omega)).trans ((kold i (by omega)).trans (hold i hi))
def GetJ (T:TypD) (nm:List Nat) (b ri:Nat) (pv:AV) (ps:List PadD) (nb:Nat) (t0':Tr AB) (m:Nat) (s:St):Prop :=
  ∃ fr j t gb gv gs,s=⟨fr,[],⟨up .e j,t,.lf⟩,.no,none,t66⟩∧b<j∧gs.length+m=T.gates.l.length∧Cps GateK (T.gates.l.take gs.length) gs ∧
    fr.get t4=some (.ptr (up .e ri) 0)∧fr.get t7=some (.ptr (up .e b) 0)∧fr.get t47=some (slV gateC T.gates)∧fr.get t48=some (.int .i64 (.ofNat T.gates.l.length))∧fr.get t49=some (.int .i64 (.ofNat gs.length)) ∧
    t.get (up .e b)=some (.cells [.str nm,pv,gv] false)∧Grow 7 t (b+1) j nb pv (ps.map padC)∧Grow 2 t (b+1) j gb gv (gs.map gateC)∧(b+1≤nb→b+1≤gb→nb≠gb)∧(∀ i,i<b→t.get (up .e i)=t0'.get (up .e i))
set_option maxHeartbeats 1000000 in
theorem get_round2 (T:TypD) (sm:Small T) (nm:List Nat) (b ri:Nat) (pv:AV) (ps:List PadD) (nb:Nat) (t0':Tr AB) (m:Nat) (s:St) (h:GetJ T nm b ri pv ps nb t0' m s) :
    Stp (GetJ T nm b ri pv ps nb t0') (fun o=>∃ s,o=.exit 2 s∧GetJ T nm b ri pv ps nb t0' 0 s) m (execA K2 (callN K2 49) c66_l1 s):=by
  obtain ⟨fr,j,t,gb,gv,gs,rfl,hj,hk,hc,f4,g7,g47,g48,g49,ab,hp,hg,hne,hold⟩:=h
  cases m with
  | zero =>
    have hkn:(gs.length<T.gates.l.length)=False:=eq_false (by omega)
    simp +decide only [c66_l1,execA,opsA,wantedA,evalAll,evalA,oneA,st_bin,binAV,St.put,gp,if_true,cond_true,nbeq,decide_true,decide_false,eqK,kindNo,g48,g49,ltI_dec,hkn,stp_e]
    refine ⟨_,rfl,_,j,t,gb,gv,gs,rfl,hj,hk,hc,?_,?_,?_,?_,?_,ab,hp,hg,hne,hold⟩
    all_goals simp +decide only [gp,f4,g7,g47,g48,g49,if_false]
  | succ m =>
    have hkn0:gs.length<T.gates.l.length:=by omega
    have hkn:=eq_true hkn0
    have hgl:=sm.gates
    have hw:=wr_add gs.length 1 (by omega)
    obtain ⟨x,hka⟩:∃ x,T.gates.l[gs.length]?=some x:=⟨_,List.getElem?_eq_getElem hkn0⟩
    have ia:=at_slV (f:=gateC) (sz:=2) len_gate (by decide) hka
    obtain ⟨s',hs1,hs2⟩:=clone32' x.legs (sm.legs x (List.mem_of_getElem? hka))
    have zb:=z_ne (i:=b) (j:=j) (by omega)
    have yb:=z_ne' (i:=b) (j:=j) (by omega)
    simp +decide only [c66_l1,execA,opsA,wantedA,evalAll,evalA,oneA,dregA,dopsA,dstep,isMaker,withP_nil,takesP_nil,leavesP_nil,rd_build,rd_load,rd_fieldp,st_alloc,st_load,st_store,st_bin,st_call,st_fieldAddr,st_indexAddr,st_build,st_buildSl,st_append,mk_buildSl,ld_ptr,ld_rs,H.cellsAt,H.newB,partA,tk_s,tk_0,tk_c,storeA,setAt,fillA,fillS,ones,cl_agg,on_int,cl_int,on_slV,cl_slV,binAV,St.put,gp,List.nil_append,List.cons_append,if_true,if_false,cond_true,cond_false,Nat.zero_add,Nat.add_zero,Nat.zero_mul,skip_up0,up_up,up_succ,up_inj,List.length,seesHeap,quiet,recheck,nbeq,nble,decide_true,Nat.reduceAdd,Bool.true_and,Bool.and_true,Bool.and_false,Bool.false_and,Bool.or_false,Bool.or_true,List.all,eqK,kindNo,Option.map_some,beq_rfl,Bool.and_self,Nat.add_assoc,cont_c,cont_n,tkP_c,lvP_c,withP_c,gateC,zb,g7,g47,g48,g49,ltI_dec,hkn,ia,hs2,ab]
    generalize hA:appendA _ 2 32 _ _=A
    generalize hTT:Tr.put _ (up .e (j+9)) _=TT at hA
    have k0:TT.get (up .e (j+9))=some (.cells (gateC { x with legs:=s' }) false):=by
      rw [← hTT,gp,if_pos rfl]
      rfl
    have kold:∀ i,i<j→TT.get (up .e i)=t.get (up .e i):=fun i hi=>by
      rw [← hTT]
      simp +decide (disch:=omega) only [gp,up_ne,if_false]
    have hg2:Grow 2 TT (b+1) (j+13) gb gv (gs.map gateC):=hg.keep (by omega) (fun _ h=>kold gb h)
    have k2:(gs.map gateC).length<1000000:=by rw [len_map]; omega
    have k3:b+1≤j+13:=by omega
    have k4:∀ r∈gs.map gateC,r.length=2:=fun r h=>by
      obtain ⟨p,_,rfl⟩:=List.mem_map.1 h
      rfl
    have ap:=Grow.append hg2 hA k0 (len_gate _) (on_gate _) k4 (by decide) k2 k3
    obtain ⟨t2,hA4,b1,b2,b3⟩:=ap
    subst hA4
    have rb:=(b2 b (by omega) (fun _ _=>by omega)).trans ((kold b (by omega)).trans ab)
    have hpv:=hp.one
    simp +decide only [withP_nil,takesP_nil,leavesP_nil,rd_load,rd_fieldp,st_mov,st_store,st_bin,ld_ptr,H.cellsAt,partA,tk_s,tk_0,tk_c,storeA,setAt,ones,on_slc,cl_slc,binAV,gp,if_true,if_false,cond_true,cond_false,Nat.zero_add,up_inj,List.length,recheck,nbeq,nble,decide_true,decide_false,Nat.reduceAdd,Nat.reduceLeDiff,Bool.and_false,List.all,eqK,kindNo,Option.map_some,beq_rfl,Bool.and_self,Nat.add_assoc,zb,g7,g49,ab,rb,hw,stp_n]
    have hpn:=hp.lt
    have hll:(gs++[{ x with legs:=s' }]).length=gs.length+1:=by rw [List.length_append]; rfl
    have hkb:∀ X:AB,∀ i,i≠b→(t2.put (up .e b) X).get (up .e i)=t2.get (up .e i):=fun X i hi=>by
      rw [gp,if_neg (fun e=>hi (by rw [up_inj] at e; exact e))]
    have hcp:Cps GateK (T.gates.l.take (gs++[{ x with legs:=s' }]).length) (gs++[{ x with legs:=s' }]):=by
      rw [hll,List.take_add_one,hka]
      exact .snoc hc ⟨s',hs1,rfl⟩
    have hmp:(gs++[{ x with legs:=s' }]).map gateC=gs.map gateC++[gateC { x with legs:=s' }]:=by rw [List.map_append]; rfl
    refine ⟨m,by omega,_,j+14,_,j+13,_,gs++[{ x with legs:=s' }],rfl,by omega,by omega,hcp,?_,?_,?_,?_,?_,(gp _ _ _ _).trans (if_pos rfl),hp.keep (by omega) (fun h1 h2 => ?_),?_,by omega,fun i hi => ?_⟩
    any_goals simp +decide (disch:=omega) only [gp,f4,g7,g47,g48,hll,if_true,if_false]
    · rw [if_neg (fun e=>by rw [up_inj] at e; omega)]
      exact (b2 nb (by omega) (fun h3 _=>hne h1 h3)).trans (kold nb h2)
    · rw [hmp]
      exact b3.keep (Nat.le_refl _) (fun _ _=>hkb _ _ (by omega))
    · rw [if_neg (fun e=>by rw [up_inj] at e; omega)]
      exact (b2 i (by omega) (fun h1 _=>by omega)).trans ((kold i (by omega)).trans (hold i hi))
end Go.Abs.Sym
end
section
namespace Go.Abs.Sym
open Go.Abs.T
open Go.Proofs
theorem find_at {α:Type} {p:α→Bool}:∀ {l:List α} {x:α},l.find? p=some x→p x=true
  | a::l,x,h=>by
    simp only [List.find?_cons] at h
    cases ha:p a with
    | true=>rw [ha] at h; cases h; exact ha
    | false=>rw [ha] at h; exact find_at h
def zeroT:TypD:=⟨[],⟨0,[]⟩,⟨0,[]⟩⟩
theorem up_of (p:Pth):p=up .e p.num:=Pth.num_inj (by rw [up_num]; simp [Pth.num])
set_option maxHeartbeats 1000000 in
theorem get66 (Ts:Sl TypD) (hl:Ts.l.length<90000) (sm:∀ T∈Ts.l,Small T) (nm:List Nat):Ret (callN K2 50 (.fn t66 [] []) [slV tyC Ts,.str nm] h0) (fun r h' =>
    (r=.tup [.agg (tyC zeroT),.bool false]∧Ts.l.find? (fun T=>eqS T.nm nm)=none)∨∃ T,Ts.l.find? (fun T=>eqS T.nm nm)=some T∧∃ j t pv gv ps gs nb gb lo,h'=⟨up .e j,t,.lf⟩∧r=.tup [.agg [.str nm,pv,gv],.bool true]∧Cps PadK T.pads.l ps∧Cps GateK T.gates.l gs∧Grow 7 t lo j nb pv (ps.map padC)∧Grow 2 t lo j gb gv (gs.map gateC)):=by
  have hs:∀ xs,K2.sums t66 xs h0=none:=fun _=>rfl
  have hF:K2.funcs.get t66=some c66:=rfl
  refine begin2 (hs _) hF fun fr t ga gb => ?_
  rw [c66]
  have hk1:ltI (.negSucc 0) (.ofNat 0)=true:=rfl
  have hk2:∀ k,ltI (.ofNat k) (.ofNat 0)=false:=fun _=>rfl
  simp +decide only [execA,opsA,wantedA,evalAll,evalA,oneA,st_mov,st_alloc,st_box,st_call,st_mkFn,st_build,H.newB,fillA,cl_str,St.put,gp,if_true,if_false,Nat.zero_add,up_succ,List.drop,List.take,nbeq,Nat.reduceAdd,leaveA,resultA,resultsA,Option.map_some,ga,gb]
  generalize hR:callN K2 49 (g t108) _ _=R
  obtain ⟨q,t',rfl,hold,hq⟩:=idx_nm' (f:=tyC) (q:=fun T=>eqS T.nm nm) (fun _ _=>rfl) rfl (fun _ _=>rfl) rfl rfl (View_slV (f:=tyC) (sz:=3) (fun _=>rfl) (by decide) _ _) hl (fun _=>⟨_,_,rfl⟩) (fun _=>rfl) (by decide) (by simp +decide only [gp,if_true,if_false]) hR
  clear hR
  obtain ⟨j1,rfl⟩:∃ j1,q=up .e j1:=⟨_,up_of q⟩
  rw [up_num] at hq
  have hr:2≤j1:=by simpa [up_num] using hq
  have tn:t'.get (up .e 0)=some (.cells [.str nm] false):=(hold (up .e 0) (by decide)).trans (by simp +decide only [gp,if_true,if_false])
  have tr:t'.get (up .e 1)=some (.cells [e0,.nils,.nils] false):=(hold (up .e 1) (by decide)).trans (by simp +decide only [gp,if_true,if_false])
  clear hold
  rcases plc_find (fun T:TypD=>eqS T.nm nm) Ts.l 0 with ⟨h1,h2⟩ | ⟨k,T,h1,h2,h3⟩
  · rw [h1]
    simp +decide only [st_mov,st_store,st_bin,ld_ptr,H.cellsAt,partA,tk_0,tk_c,storeA,setAt,ones,cl_agg,on_str,on_nils,binAV,gp,if_true,if_false,cond_true,Nat.zero_add,Nat.add_zero,up_up,List.length,nbeq,decide_true,Nat.reduceAdd,Bool.and_true,eqK,kindNo,ret_iff,dfrsA,Option.map_some,hk1,tr]
    exact .inl ⟨rfl,h2⟩
  · rw [h1,Nat.zero_add]
    have smT:=sm T (List.mem_of_getElem? h2)
    have ia:=at_slV (f:=tyC) (sz:=3) (fun _=>rfl) (by decide) h2
    have w0:=z_ne (i:=0) (j:=j1) (by omega)
    have w1:=z_ne (i:=1) (j:=j1) (by omega)
    have hpl:=smT.pads
    have hgl:=smT.gates
    simp +decide only [st_mov,st_load,st_store,st_bin,st_indexAddr,st_fieldr,st_len,ld_ptr,ld_rn,H.cellsAt,partA,tk_0,tk_c,storeA,setAt,fillA,ones,cl_agg,on_str,cl_str,on_nils,binAV,gp,List.nil_append,List.cons_append,if_true,if_false,cond_true,Nat.zero_add,Nat.add_zero,up_up,up_succ,List.drop,List.length,nbeq,nble,decide_true,Nat.reduceAdd,Nat.reduceLeDiff,eqK,kindNo,Option.map_some,Bool.and_self,Nat.add_assoc,tyC,ga,hk2,tn,ia,len_slV,kf2]
    generalize hit:iterA (execA K2 (callN K2 49) c66_l0) 100000 _=o
    have ho:∃ s,o=.exit 0 s∧GetI T nm j1 j1 1 (slV tyC Ts) (.int .i64 (.ofNat k)) t' 0 s:=by
      rw [← hit]
      refine iter_rule (GetI T nm j1 j1 1 (slV tyC Ts) (.int .i64 (.ofNat k)) t') (fun o=>∃ s,o=.exit 0 s∧GetI T nm j1 j1 1 (slV tyC Ts) (.int .i64 (.ofNat k)) t' 0 s) (fun m s h=>get_round T smT nm j1 j1 1 _ _ t' m s h) 100000 T.pads.l.length _ ?_ (by omega)
      refine ⟨_,j1+1,_,0,.nils,[],rfl,by omega,by simp,.nil,?_,?_,?_,?_,?_,?_,?_,(gp _ _ _ _).trans (if_pos rfl),.inl ⟨rfl,rfl,rfl⟩,fun i hi => ?_⟩
      all_goals simp +decide (disch:=omega) only [gp,up_ne,ga,if_true,if_false,List.length_nil]
    obtain ⟨s,rfl,fr2,j2,t2',nb,pv,ps,rfl,q1,q2,q3,f0,f6,f4,f7,f24,f25,f26,ab,hg,hold⟩:=ho
    clear hit
    have ia':indexAddrA (.slc 3) (slV tyC Ts) (.int .i64 (.ofNat k))=some (.rptr (tyC T++(Ts.l.drop (k+1)).flatMap tyC)):=ia
    simp +decide only [st_mov,st_load,st_indexAddr,st_fieldr,st_len,ld_rn,gp,List.nil_append,List.cons_append,if_true,if_false,cond_true,List.drop,List.length,nble,decide_true,Nat.reduceAdd,Nat.reduceLeDiff,Nat.add_assoc,tyC,f0,f6,ia',len_slV]
    generalize hit:iterA (execA K2 (callN K2 49) c66_l1) 100000 _=o
    have ho:∃ s,o=.exit 2 s∧GetJ T nm j1 1 pv ps nb t' 0 s:=by
      rw [← hit]
      refine iter_rule (GetJ T nm j1 1 pv ps nb t') (fun o=>∃ s,o=.exit 2 s∧GetJ T nm j1 1 pv ps nb t' 0 s) (fun m s h=>get_round2 T smT nm j1 1 pv ps nb t' m s h) 100000 T.gates.l.length _ ?_ (by omega)
      refine ⟨_,j2,t2',0,.nils,[],rfl,q1,by simp,.nil,?_,?_,?_,?_,?_,ab,hg,.inl ⟨rfl,rfl,rfl⟩,by omega,hold⟩
      all_goals simp +decide only [gp,f4,f7,if_true,if_false,List.length_nil]
    obtain ⟨s,rfl,fr3,j3,t3',gb2,gv,gs,rfl,p1,p2,p3,k4,k7,k47,k48,k49,ab3,hp3,hg3,hne,hold3⟩:=ho
    clear hit
    have r3:=(hold3 1 (by omega)).trans tr
    have o1:=hp3.one
    have o2:=hg3.one
    simp +decide only [st_load,st_store,ld_ptr,H.cellsAt,partA,tk_0,tk_c,storeA,setAt,ones,cl_agg,on_str,gp,if_true,if_false,cond_true,Nat.zero_add,List.length,nbeq,decide_true,Nat.reduceAdd,ret_iff,dfrsA,Option.map_some,Bool.and_self,k4,k7,ab3,r3,o1,o2]
    rw [List.take_of_length_le (by omega)] at q3 p3
    refine .inr ⟨T,h3,j3,_,pv,gv,ps,gs,nb,gb2,j1+1,rfl,rfl,q3,p3,hp3.keep (Nat.le_refl _) (fun h4 _ => ?_),hg3.keep (Nat.le_refl _) (fun h4 _ => ?_)⟩
    all_goals rw [gp,if_neg (fun e=>by rw [up_inj] at e; omega)]
end Go.Abs.Sym
end
section
namespace Go.Abs.Sym
open Go.Abs.T
open Go.Proofs
theorem Cps.map {α β:Type} {K:α→α→Prop} {g:α→β} {l m:List α} (h:Cps K l m) (hK:∀ a∈l,∀ b,K a b→g b=g a):m.map g=l.map g:=by
  induction h with
  | nil=>rfl
  | snoc h1 h2 ih =>
    rw [List.map_append,List.map_append,ih (fun a ha b=>hK a (List.mem_append_left _ ha) b)]
    simp only [List.map_cons,List.map_nil]
    rw [hK _ (List.mem_append_right _ List.mem_cons_self) _ h2]
structure Nice (T:TypD):Prop extends Small T where
  ne:∀ p∈T.pads.l,p.es.l≠[]
  le:∀ g∈T.gates.l,g.legs.l≠[]
  p0:T.pads.l=[]→T.pads.kind=0
  g0:T.gates.l=[]→T.gates.kind=0
theorem slV_eq {α:Type} (f:α→List AV) {s s':Sl α} (h:s.l=s'.l) (hn:s'.l≠[]):slV f s=slV f s':=by
  rw [slV_ne f hn 1,slV_ne f (s:=s) (by rw [h]; exact hn) 1,h]
theorem grow_deep {α:Type} {f:α→List AV} {sz lo hi nb d:Nat} {t:Tr AB} {nx:Pth} {v:AV} {l:List α} (hf:∀ a,(f a).length=sz) (hz:∀ a,frzs (f a)=true) (h:Grow sz t lo hi nb v (l.map f)):deep (d+1) ⟨nx,t,.lf⟩ v=slV f ⟨0,l⟩:=by
  rcases h with ⟨h1,rfl,_⟩ | ⟨h1,rfl,h3,_,_⟩
  · have:l=[]:=List.map_eq_nil_iff.1 h1
    subst this
    rfl
  · rw [List.length_map] at h1 ⊢
    have hl:l≠[]:=fun e=>by rw [e] at h1; exact absurd h1 (by simp)
    rw [slV_ne f (s:=⟨0,l⟩) hl 1,slV_rslc,deep_slc (h:=⟨nx,t,.lf⟩) (cellsAt_t h3) (takeD_all (by rw [← List.flatMap_def]; exact len_flat hf l)),← List.flatMap_def,deeps_frz _ _ _ (frzs_flat hz l)]
theorem get_sum {Ts:Sl TypD} (hl:Ts.l.length<90000) (sm:∀ T∈Ts.l,Nice T) {nm:Bs} {T:TypD} (hT:Ts.l.find? (fun T=>eqS T.nm nm)=some T) (h:H):K3.sums t66 [slV tyC Ts,.str nm] h=some (.tup [.agg (tyC T),.bool true]):=by
  obtain ⟨r,h1,hc,hr⟩:=get66 Ts hl (fun T hT=>(sm T hT).toSmall) nm
  rcases hr with ⟨_,hr⟩ | ⟨T',hT',j,t,pv,gv,ps,gs,nb,gb,lo,rfl,rfl,c1,c2,g1,g2⟩
  · rw [hr] at hT
    cases hT
  · rw [hT'] at hT
    cases hT
    have hn:=sm T (List.mem_of_find?_eq_some hT')
    have e1:ps.map padC=T.pads.l.map padC:=c1.map fun p hp q ⟨s,hs,hq⟩=>by
      subst hq
      simp only [padC,slV_eq edC hs (hn.ne p hp)]
    have e2:gs.map gateC=T.gates.l.map gateC:=c2.map fun p hp q ⟨s,hs,hq⟩=>by
      subst hq
      simp only [gateC,slV_eq lgC hs (hn.le p hp)]
    rw [e1] at g1
    rw [e2] at g2
    have hnm:T.nm=nm:=by
      have:=find_at hT'
      rw [eqS_dec,decide_eq_true_eq] at this
      exact this
    have hk:∀ {α:Type} (f:α→List AV) (s:Sl α),(s.l=[]→s.kind=0)→slV f ⟨0,s.l⟩=slV f s:=fun f s h0=>by
      obtain ⟨kd,l⟩:=s
      cases l with
      | nil =>
        have e:=h0 rfl
        simp only at e
        rw [e]
      | cons a l=>rfl
    have hd:deep 8 ⟨up .e j,t,.lf⟩ (.tup [.agg [.str nm,pv,gv],.bool true])=.tup [.agg (tyC T),.bool true]:=by
      have d1:=grow_deep (d:=5) (nx:=up .e j) len_pad frz_pad g1
      have d2:=grow_deep (d:=5) (nx:=up .e j) len_gate frz_gate g2
      rw [hk padC T.pads hn.p0] at d1
      rw [hk gateC T.gates hn.g0] at d2
      have et:∀ (d:Nat) (h:H) (xs:List AV),deep (d+1) h (.tup xs)=.tup (xs.map (deep d h)):=fun _ _ _=>rfl
      have es:∀ (d:Nat) (h:H) (s:Bs),deep d h (.str s)=.str s:=fun d h s=>deep_frz d h _ rfl
      have eb:∀ (d:Nat) (h:H) (s:Bool),deep d h (.bool s)=.bool s:=fun d h s=>deep_frz d h _ rfl
      rw [et,List.map_cons,deep_agg]
      simp only [List.map_cons,List.map_nil,es,eb,d1,d2,tyC,hnm]
    rw [← hd]
    exact over_fz (X:=K2) rfl hc (by simp only [frzs,frz,frz_slV frz_ty,Bool.and_self]) (by rw [hd]; simp only [frz,frzs,frz_ty,Bool.and_self]) h
theorem find_sum {T:TypD} (sm:Nice T) {nm:Bs} {p:PadD} (hp:findP T nm=some p) (h:H):K2.sums t75 [.agg (tyC T),.str nm] h=some (resP (some p)):=by
  obtain ⟨v,h1,hc,hv⟩:=find8 T nm sm.pads sm.es
  rcases hv with ⟨hv,_⟩ | ⟨q,s',hv,hs,rfl⟩
  · rw [hv] at hp
    cases hp
  · rw [hv] at hp
    cases hp
    have e:resP (some { p with es:=s' })=resP (some p):=by
      simp only [resP,padC,slV_eq edC hs (sm.ne p (List.mem_of_find?_eq_some hv))]
    rw [e] at hc
    exact over_fz' (X:=K1) rfl hc (by simp only [frzs,frz,frz_ty,Bool.and_self]) (by simp only [resP,frz,frzs,frz_pad,Bool.and_self]) h
end Go.Abs.Sym
end
end
