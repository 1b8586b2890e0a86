/- The functions are the program's own. -/
import Derived.Test.YtipcmdllhllolaaGreatDoorChecked
import Derived.Test.YtipcmdllhllolaaGreatDoorK05
import Derived.Test.YtipcmdllhllolaaGreatDoorK16
noncomputable section
namespace Go.Abs.T
open Go.Proofs
abbrev G:=Good Tryz.prog
theorem cN_ok {k:Nat} {F:AFunc} (e:cN k=some F) {i:Pth} (h:i.num=k):G i F:=by
 subst h
 unfold cN at e
 cases hq:Nat.beq i.num 46||Nat.beq i.num 116||Nat.beq i.num 147 with
 | true=>rw [hq] at e; cases e
 | false=>
 rw [hq] at e
 simp only [cond_false] at e
 split at e
 ·cases e
 ·rename_i f hf
  cases hb:f.body.isSome && !(f.name == "runtime.NumGoroutine") with
  | false=>rw [hb] at e; cases e
  | true=>rw [hb] at e; exact gd hf (by rw [hb]; exact congrArg _ e)
def AG (T:Tr AFunc) (a b:Nat):Prop:=∀ (p:Pth) (F:AFunc),T.get p=some F→∀ i:Pth,i.num=a*p.num+b→G i F
theorem nd' {l r:Tr AFunc} {v:Option AFunc} {a b:Nat} (hv:∀ F,v=some F→∀ i:Pth,i.num=b→G i F) (hl:AG l (2*a) (a+b)) (hr:AG r (2*a) (2*a+b)):AG (.nd l v r) a b:=by
 intro p F e i hi
 cases p with
 | e=>exact hv F e i (by rw [hi]; simp [Pth.num])
 | l p=>exact hl p F e i (by rw [hi]; simp only [Pth.num]; rw [Nat.mul_add,Nat.mul_one,← Nat.mul_assoc,Nat.mul_comm a 2]; omega)
 | r p=>exact hr p F e i (by rw [hi]; simp only [Pth.num]; rw [Nat.mul_add,← Nat.mul_assoc,Nat.mul_comm a 2]; omega)
theorem an {l r:Tr AFunc} {a b:Nat} (hl:AG l (2*a) (a+b)) (hr:AG r (2*a) (2*a+b)):AG (.nd l (cN b) r) a b:=nd' (fun _ e _ h=>cN_ok e h) hl hr
theorem aw {l r:Tr AFunc} {a b:Nat} {F:AFunc} {k:Pth} (hk:G k F) (hl:AG l (2*a) (a+b)) (hr:AG r (2*a) (2*a+b)) (hb:k.num=b:=by rfl):AG (.nd l (some F) r) a b:=nd' (fun F' e i h=>by
 cases e
 unfold G Good at hk ⊢
 rw [h,← hb]
 exact hk) hl hr
theorem az:∀ d a b:Nat,AG (fz d a b) a b
 | 0,_,_=>fun p F e=>by cases p<;>cases e
 | d+1,a,b=>an (az d (2*a) (a+b)) (az d (2*a) (2*a+b))
theorem k5:G t5 c5:=gd Tryz.func5 (by kernel_rfl)
theorem k7:G t7 c7:=gd Tryz.func7 (by kernel_rfl)
theorem k8:G t8 c8:=gd Tryz.func8 (by kernel_rfl)
theorem k10:G t10 c10:=gd Tryz.func10 (by kernel_rfl)
theorem k13:G t13 c13:=gd Tryz.func13 (by kernel_rfl)
theorem k14:G t14 c14:=gd Tryz.func14 (by kernel_rfl)
theorem k19:G t19 c19:=gd Tryz.func19 (by kernel_rfl)
theorem k20:G t20 c20:=gd Tryz.func20 (by kernel_rfl)
theorem k22:G t22 c22:=gd Tryz.func22 (by kernel_rfl)
theorem k23:G t23 c23:=gd Tryz.func23 (by kernel_rfl)
theorem k25:G t25 c25:=gd Tryz.func25 (by kernel_rfl)
theorem k26:G t26 c26:=gd Tryz.func26 (by kernel_rfl)
theorem k27:G t27 c27:=gd Tryz.func27 (by kernel_rfl)
theorem k28:G t28 c28:=gd Tryz.func28 (by kernel_rfl)
theorem k29:G t29 c29:=gd Tryz.func29 (by kernel_rfl)
theorem k31:G t31 c31:=gd Tryz.func31 (by kernel_rfl)
theorem k32:G t32 c32:=gd Tryz.func32 (by kernel_rfl)
theorem k34:G t34 c34:=gd Tryz.func34 (by kernel_rfl)
theorem k35:G t35 c35:=gd Tryz.func35 (by kernel_rfl)
theorem k36:G t36 c36:=gd Tryz.func36 (by kernel_rfl)
theorem k37:G t37 c37:=gd Tryz.func37 (by kernel_rfl)
theorem k43:G t43 c43:=gd Tryz.func43 (by kernel_rfl)
theorem k61:G t61 c61:=gd Tryz.func61 (by kernel_rfl)
theorem k62:G t62 c62:=gd Tryz.func62 (by kernel_rfl)
theorem k63:G t63 c63:=gd Tryz.func63 (by kernel_rfl)
theorem k64:G t64 c64:=gd Tryz.func64 (by kernel_rfl)
theorem k66:G t66 c66:=gd Tryz.func66 (by kernel_rfl)
theorem k72:G t72 c72:=gd Tryz.func72 (by kernel_rfl)
theorem k75:G t75 c75:=gd Tryz.func75 (by kernel_rfl)
theorem k77:G t77 c77:=gd Tryz.func77 (by kernel_rfl)
theorem k78:G t78 c78:=gd Tryz.func78 (by kernel_rfl)
theorem k79:G t79 c79:=gd Tryz.func79 (by kernel_rfl)
theorem k105:G t105 c105:=gd Tryz.func105 (by kernel_rfl)
theorem k108:G t108 c108:=gd Tryz.func108 (by kernel_rfl)
theorem k109:G t109 c109:=gd Tryz.func109 (by kernel_rfl)
theorem k110:G t110 c110:=gd Tryz.func110 (by kernel_rfl)
theorem k111:G t111 c111:=gd Tryz.func111 (by kernel_rfl)
theorem k117:G t117 c117:=gd Tryz.func117 (by kernel_rfl)
theorem k118:G t118 c118:=gd Tryz.func118 (by kernel_rfl)
theorem k119:G t119 c119:=gd Tryz.func119 (by kernel_rfl)
theorem k155:G t155 c155:=gd Tryz.func155 (by kernel_rfl)
end Go.Abs.T
end
