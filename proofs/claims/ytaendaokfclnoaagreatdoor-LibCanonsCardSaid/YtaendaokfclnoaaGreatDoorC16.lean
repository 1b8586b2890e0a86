/- The functions are the program's own. -/
import Derived.Test.YtaendaokfclnoaaGreatDoorChecked
import Derived.Test.YtaendaokfclnoaaGreatDoorC04
import Derived.Test.YtaendaokfclnoaaGreatDoorC15
noncomputable section
namespace Go.Abs.T
open Go.Proofs
set_option maxRecDepth 10000
abbrev G:=Good Tryz.prog
theorem yIj {k:Nat} {F:AFunc} (e:cN k=some F) {i:Pth} (h:i.num=k):G i F:=by
 subst h
 unfold cN at e
 cases hq:Nat.beq i.num 154||Nat.beq i.num 257 with
 | true=>rw [hq] at e; cases e
 | false=>
 rw [hq] at e
 simp only [cond_false] at e
 split at e
 ·cases e
 ·rename_i f hf
  cases hb:f.body.isSome && !(f.name == "runtime.NumGoroutine") with
  | false=>rw [hb] at e; cases e
  | true=>rw [hb] at e; exact gd hf (by rw [hb]; exact congrArg _ e)
def AG (T:Tr AFunc) (a b:Nat):Prop:=∀ (p:Pth) (F:AFunc),T.get p=some F→∀ i:Pth,i.num=a*p.num+b→G i F
theorem nd' {l r:Tr AFunc} {v:Option AFunc} {a b:Nat} (hv:∀ F,v=some F→∀ i:Pth,i.num=b→G i F) (hl:AG l (2*a) (a+b)) (hr:AG r (2*a) (2*a+b)):AG (.nd l v r) a b:=by
 intro p F e i hi
 cases p with
 | e=>exact hv F e i (by rw [hi]; simp [Pth.num])
 | l p=>exact hl p F e i (by rw [hi]; simp only [Pth.num]; rw [Nat.mul_add,Nat.mul_one,← Nat.mul_assoc,Nat.mul_comm a 2]; omega)
 | r p=>exact hr p F e i (by rw [hi]; simp only [Pth.num]; rw [Nat.mul_add,← Nat.mul_assoc,Nat.mul_comm a 2]; omega)
theorem an {l r:Tr AFunc} {a b:Nat} (hl:AG l (2*a) (a+b)) (hr:AG r (2*a) (2*a+b)):AG (.nd l (cN b) r) a b:=nd' (fun _ e _ h=>yIj e h) hl hr
theorem aw {l r:Tr AFunc} {a b:Nat} {F:AFunc} {k:Pth} (hk:G k F) (hl:AG l (2*a) (a+b)) (hr:AG r (2*a) (2*a+b)) (hb:k.num=b:=by rfl):AG (.nd l (some F) r) a b:=nd' (fun F' e i h=>by
 cases e
 unfold G Good at hk ⊢
 rw [h,← hb]
 exact hk) hl hr
theorem az:∀ d a b:Nat,AG (fz d a b) a b
 | 0,_,_=>fun p F e=>by cases p<;>cases e
 | d+1,a,b=>an (az d (2*a) (a+b)) (az d (2*a) (2*a+b))
theorem k3:G t3 c3:=gd Tryz.func3 (by kernel_rfl)
theorem k5:G t5 c5:=gd Tryz.func5 (by kernel_rfl)
theorem k6:G t6 c6:=gd Tryz.func6 (by kernel_rfl)
theorem k7:G t7 c7:=gd Tryz.func7 (by kernel_rfl)
theorem k8:G t8 c8:=gd Tryz.func8 (by kernel_rfl)
theorem k9:G t9 c9:=gd Tryz.func9 (by kernel_rfl)
theorem k10:G t10 c10:=gd Tryz.func10 (by kernel_rfl)
theorem k11:G t11 c11:=gd Tryz.func11 (by kernel_rfl)
theorem k12:G t12 c12:=gd Tryz.func12 (by kernel_rfl)
theorem k13:G t13 c13:=gd Tryz.func13 (by kernel_rfl)
theorem k14:G t14 c14:=gd Tryz.func14 (by kernel_rfl)
theorem k17:G t17 c17:=gd Tryz.func17 (by kernel_rfl)
theorem k19:G t19 c19:=gd Tryz.func19 (by kernel_rfl)
theorem k20:G t20 c20:=gd Tryz.func20 (by kernel_rfl)
theorem k21:G t21 c21:=gd Tryz.func21 (by kernel_rfl)
theorem k22:G t22 c22:=gd Tryz.func22 (by kernel_rfl)
theorem k23:G t23 c23:=gd Tryz.func23 (by kernel_rfl)
theorem k24:G t24 c24:=gd Tryz.func24 (by kernel_rfl)
theorem k25:G t25 c25:=gd Tryz.func25 (by kernel_rfl)
theorem k26:G t26 c26:=gd Tryz.func26 (by kernel_rfl)
theorem k27:G t27 c27:=gd Tryz.func27 (by kernel_rfl)
theorem k28:G t28 c28:=gd Tryz.func28 (by kernel_rfl)
theorem k29:G t29 c29:=gd Tryz.func29 (by kernel_rfl)
theorem k30:G t30 c30:=gd Tryz.func30 (by kernel_rfl)
theorem k31:G t31 c31:=gd Tryz.func31 (by kernel_rfl)
theorem k32:G t32 c32:=gd Tryz.func32 (by kernel_rfl)
theorem k33:G t33 c33:=gd Tryz.func33 (by kernel_rfl)
theorem k34:G t34 c34:=gd Tryz.func34 (by kernel_rfl)
theorem k35:G t35 c35:=gd Tryz.func35 (by kernel_rfl)
theorem k36:G t36 c36:=gd Tryz.func36 (by kernel_rfl)
theorem k37:G t37 c37:=gd Tryz.func37 (by kernel_rfl)
theorem k38:G t38 c38:=gd Tryz.func38 (by kernel_rfl)
theorem k39:G t39 c39:=gd Tryz.func39 (by kernel_rfl)
theorem k40:G t40 c40:=gd Tryz.func40 (by kernel_rfl)
theorem k41:G t41 c41:=gd Tryz.func41 (by kernel_rfl)
theorem k42:G t42 c42:=gd Tryz.func42 (by kernel_rfl)
theorem k43:G t43 c43:=gd Tryz.func43 (by kernel_rfl)
theorem k44:G t44 c44:=gd Tryz.func44 (by kernel_rfl)
theorem k45:G t45 c45:=gd Tryz.func45 (by kernel_rfl)
theorem k50:G t50 c50:=gd Tryz.func50 (by kernel_rfl)
theorem k51:G t51 c51:=gd Tryz.func51 (by kernel_rfl)
theorem k54:G t54 c54:=gd Tryz.func54 (by kernel_rfl)
theorem k55:G t55 c55:=gd Tryz.func55 (by kernel_rfl)
theorem k56:G t56 c56:=gd Tryz.func56 (by kernel_rfl)
theorem k57:G t57 c57:=gd Tryz.func57 (by kernel_rfl)
theorem k58:G t58 c58:=gd Tryz.func58 (by kernel_rfl)
theorem k59:G t59 c59:=gd Tryz.func59 (by kernel_rfl)
theorem k60:G t60 c60:=gd Tryz.func60 (by kernel_rfl)
theorem k61:G t61 c61:=gd Tryz.func61 (by kernel_rfl)
theorem k62:G t62 c62:=gd Tryz.func62 (by kernel_rfl)
theorem k63:G t63 c63:=gd Tryz.func63 (by kernel_rfl)
theorem k64:G t64 c64:=gd Tryz.func64 (by kernel_rfl)
theorem k66:G t66 c66:=gd Tryz.func66 (by kernel_rfl)
theorem k67:G t67 c67:=gd Tryz.func67 (by kernel_rfl)
theorem k68:G t68 c68:=gd Tryz.func68 (by kernel_rfl)
theorem k69:G t69 c69:=gd Tryz.func69 (by kernel_rfl)
theorem k70:G t70 c70:=gd Tryz.func70 (by kernel_rfl)
theorem k71:G t71 c71:=gd Tryz.func71 (by kernel_rfl)
theorem k85:G t85 c85:=gd Tryz.func85 (by kernel_rfl)
theorem k86:G t86 c86:=gd Tryz.func86 (by kernel_rfl)
theorem k88:G t88 c88:=gd Tryz.func88 (by kernel_rfl)
theorem k89:G t89 c89:=gd Tryz.func89 (by kernel_rfl)
theorem k90:G t90 c90:=gd Tryz.func90 (by kernel_rfl)
theorem k91:G t91 c91:=gd Tryz.func91 (by kernel_rfl)
theorem k92:G t92 c92:=gd Tryz.func92 (by kernel_rfl)
theorem k98:G t98 c98:=gd Tryz.func98 (by kernel_rfl)
theorem k101:G t101 c101:=gd Tryz.func101 (by kernel_rfl)
theorem k123:G t123 c123:=gd Tryz.func123 (by kernel_rfl)
theorem k124:G t124 c124:=gd Tryz.func124 (by kernel_rfl)
theorem k125:G t125 c125:=gd Tryz.func125 (by kernel_rfl)
theorem k134:G t134 c134:=gd Tryz.func134 (by kernel_rfl)
theorem k135:G t135 c135:=gd Tryz.func135 (by kernel_rfl)
theorem k143:G t143 c143:=gd Tryz.func143 (by kernel_rfl)
theorem zU5:AG funcs 1 0:=(an (an (aw k3 (aw k7 (an (aw k31 (aw k63 (az _ _ _) (az _ _ _)) (az _ _ _)) (an (an (aw k143 (az _ _ _) (az _ _ _)) (az _ _ _)) (az _ _ _))) (aw k23 (aw k39 (aw k71 (aw k135 (az _ _ _) (az _ _ _)) (az _ _ _)) (az _ _ _)) (aw k55 (az _ _ _) (az _ _ _)))) (aw k11 (aw k19 (aw k35 (aw k67 (az _ _ _) (az _ _ _)) (az _ _ _)) (aw k51 (az _ _ _) (az _ _ _))) (aw k27 (aw k43 (az _ _ _) (az _ _ _)) (aw k59 (aw k91 (az _ _ _) (az _ _ _)) (aw k123 (az _ _ _) (az _ _ _)))))) (aw k5 (aw k9 (aw k17 (aw k33 (az _ _ _) (az _ _ _)) (az _ _ _)) (aw k25 (aw k41 (az _ _ _) (az _ _ _)) (aw k57 (aw k89 (az _ _ _) (az _ _ _)) (az _ _ _)))) (aw k13 (aw k21 (aw k37 (aw k69 (az _ _ _) (az _ _ _)) (aw k101 (az _ _ _) (az _ _ _))) (an (aw k85 (az _ _ _) (az _ _ _)) (az _ _ _))) (aw k29 (aw k45 (az _ _ _) (az _ _ _)) (aw k61 (az _ _ _) (aw k125 (az _ _ _) (az _ _ _))))))) (an (an (aw k8 (an (aw k32 (aw k64 (az _ _ _) (az _ _ _)) (az _ _ _)) (az _ _ _)) (aw k24 (aw k40 (az _ _ _) (az _ _ _)) (aw k56 (aw k88 (az _ _ _) (az _ _ _)) (az _ _ _)))) (aw k12 (aw k20 (aw k36 (aw k68 (az _ _ _) (az _ _ _)) (az _ _ _)) (az _ _ _)) (aw k28 (aw k44 (az _ _ _) (az _ _ _)) (aw k60 (aw k92 (az _ _ _) (az _ _ _)) (aw k124 (az _ _ _) (az _ _ _)))))) (aw k6 (aw k10 (an (aw k34 (aw k66 (az _ _ _) (az _ _ _)) (aw k98 (az _ _ _) (az _ _ _))) (aw k50 (az _ _ _) (az _ _ _))) (aw k26 (aw k42 (az _ _ _) (az _ _ _)) (aw k58 (aw k90 (az _ _ _) (az _ _ _)) (az _ _ _)))) (aw k14 (aw k22 (aw k38 (aw k70 (aw k134 (az _ _ _) (az _ _ _)) (az _ _ _)) (az _ _ _)) (aw k54 (aw k86 (az _ _ _) (az _ _ _)) (az _ _ _))) (aw k30 (az _ _ _) (aw k62 (az _ _ _) (az _ _ _)))))))
end Go.Abs.T
end
