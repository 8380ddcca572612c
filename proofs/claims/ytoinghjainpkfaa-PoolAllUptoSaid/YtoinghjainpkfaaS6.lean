import Derived.Test.YtoinghjainpkfaaS5
import Derived.Test.YtoinghjainpkfaaChecked
import Derived.KernelRfl
import Derived.OpenShut
import Derived.Test.YtoinghjainpkfaaRows
import Derived.Shelf.SlMaps.Clone
/- What the claim hangs on, part 6: RF4 RGA RG4 RG5 VXS UA UB UC UD UE UF UG UH UI UJ UK UP UQ RG6 RSN. -/
set_option linter.unusedVariables false
set_option maxRecDepth 100000
namespace Go.VI
theorem fc40 : compF Go.Proofs.Try.prog 40 = some (31,r40,c40):=by rfl
theorem fn40 : (Go.Proofs.Try.prog.funcs[40]?).all (fun fn => !(fn.name == "runtime.NumGoroutine")) = true:=by kernel_rfl
theorem fc41 : compF Go.Proofs.Try.prog 41 = some (42,r41,c41):=by rfl
theorem fn41 : (Go.Proofs.Try.prog.funcs[41]?).all (fun fn => !(fn.name == "runtime.NumGoroutine")) = true:=by kernel_rfl
theorem fc42 : compF Go.Proofs.Try.prog 42 = some (19,r42,c42):=by rfl
theorem fn42 : (Go.Proofs.Try.prog.funcs[42]?).all (fun fn => !(fn.name == "runtime.NumGoroutine")) = true:=by kernel_rfl
theorem fc43 : compF Go.Proofs.Try.prog 43 = some (15,r43,c43):=by rfl
theorem fn43 : (Go.Proofs.Try.prog.funcs[43]?).all (fun fn => !(fn.name == "runtime.NumGoroutine")) = true:=by kernel_rfl
theorem fc45 : compF Go.Proofs.Try.prog 45 = some (26,r45,c45):=by kernel_rfl
theorem fn45 : (Go.Proofs.Try.prog.funcs[45]?).all (fun fn => !(fn.name == "runtime.NumGoroutine")) = true:=by kernel_rfl
theorem fc49 : compF Go.Proofs.Try.prog 49 = some (29,r49,c49):=by rfl
theorem fn49 : (Go.Proofs.Try.prog.funcs[49]?).all (fun fn => !(fn.name == "runtime.NumGoroutine")) = true:=by kernel_rfl
theorem fc51 : compF Go.Proofs.Try.prog 51 = some (91,r51,c51):=by kernel_rfl
theorem fn51 : (Go.Proofs.Try.prog.funcs[51]?).all (fun fn => !(fn.name == "runtime.NumGoroutine")) = true:=by kernel_rfl
theorem fc52 : compF Go.Proofs.Try.prog 52 = some (12,r52,c52):=by rfl
theorem fn52 : (Go.Proofs.Try.prog.funcs[52]?).all (fun fn => !(fn.name == "runtime.NumGoroutine")) = true:=by kernel_rfl
theorem fc53 : compF Go.Proofs.Try.prog 53 = some (11,r53,c53):=by rfl
theorem fn53 : (Go.Proofs.Try.prog.funcs[53]?).all (fun fn => !(fn.name == "runtime.NumGoroutine")) = true:=by kernel_rfl
theorem fc54 : compF Go.Proofs.Try.prog 54 = some (35,r54,c54):=by rfl
theorem fn54 : (Go.Proofs.Try.prog.funcs[54]?).all (fun fn => !(fn.name == "runtime.NumGoroutine")) = true:=by kernel_rfl
theorem fc105 : compF Go.Proofs.Try.prog 105 = some (7,r105,c105):=by rfl
theorem fn105 : (Go.Proofs.Try.prog.funcs[105]?).all (fun fn => !(fn.name == "runtime.NumGoroutine")) = true:=by kernel_rfl
theorem fc106 : compF Go.Proofs.Try.prog 106 = some (24,r106,c106):=by rfl
theorem fn106 : (Go.Proofs.Try.prog.funcs[106]?).all (fun fn => !(fn.name == "runtime.NumGoroutine")) = true:=by kernel_rfl
theorem fc107 : compF Go.Proofs.Try.prog 107 = some (8,r107,c107):=by rfl
theorem fn107 : (Go.Proofs.Try.prog.funcs[107]?).all (fun fn => !(fn.name == "runtime.NumGoroutine")) = true:=by kernel_rfl
theorem fc108 : compF Go.Proofs.Try.prog 108 = some (15,r108,c108):=by rfl
theorem fn108 : (Go.Proofs.Try.prog.funcs[108]?).all (fun fn => !(fn.name == "runtime.NumGoroutine")) = true:=by kernel_rfl
theorem fc110 : compF Go.Proofs.Try.prog 110 = some (57,r110,c110):=by rfl
theorem fn110 : (Go.Proofs.Try.prog.funcs[110]?).all (fun fn => !(fn.name == "runtime.NumGoroutine")) = true:=by kernel_rfl
theorem fc113 : compF Go.Proofs.Try.prog 113 = some (36,r113,c113):=by rfl
theorem fn113 : (Go.Proofs.Try.prog.funcs[113]?).all (fun fn => !(fn.name == "runtime.NumGoroutine")) = true:=by kernel_rfl
theorem fc114 : compF Go.Proofs.Try.prog 114 = some (9,r114,c114):=by rfl
theorem fn114 : (Go.Proofs.Try.prog.funcs[114]?).all (fun fn => !(fn.name == "runtime.NumGoroutine")) = true:=by kernel_rfl
theorem fc115 : compF Go.Proofs.Try.prog 115 = some (8,r115,c115):=by rfl
theorem fn115 : (Go.Proofs.Try.prog.funcs[115]?).all (fun fn => !(fn.name == "runtime.NumGoroutine")) = true:=by kernel_rfl
theorem fc116 : compF Go.Proofs.Try.prog 116 = some (19,r116,c116):=by rfl
theorem fn116 : (Go.Proofs.Try.prog.funcs[116]?).all (fun fn => !(fn.name == "runtime.NumGoroutine")) = true:=by kernel_rfl
theorem fc117 : compF Go.Proofs.Try.prog 117 = some (12,r117,c117):=by rfl
theorem fn117 : (Go.Proofs.Try.prog.funcs[117]?).all (fun fn => !(fn.name == "runtime.NumGoroutine")) = true:=by kernel_rfl
theorem fc158 : compF Go.Proofs.Try.prog 158 = some (16,r158,c158):=by rfl
theorem fn158 : (Go.Proofs.Try.prog.funcs[158]?).all (fun fn => !(fn.name == "runtime.NumGoroutine")) = true:=by kernel_rfl
theorem fc160 : compF Go.Proofs.Try.prog 160 = some (10,r160,c160):=by rfl
theorem fn160 : (Go.Proofs.Try.prog.funcs[160]?).all (fun fn => !(fn.name == "runtime.NumGoroutine")) = true:=by kernel_rfl
theorem fc165 : compF Go.Proofs.Try.prog 165 = some (27,r165,c165):=by rfl
theorem fn165 : (Go.Proofs.Try.prog.funcs[165]?).all (fun fn => !(fn.name == "runtime.NumGoroutine")) = true:=by kernel_rfl
theorem fc109 : compF Go.Proofs.Try.prog 109 = some (8,r109,c109):=by rfl
theorem fn109 : (Go.Proofs.Try.prog.funcs[109]?).all (fun fn => !(fn.name == "runtime.NumGoroutine")) = true:=by kernel_rfl
theorem fc48 : compF Go.Proofs.Try.prog 48 = some (51,r48,c48):=by rfl
theorem fn48 : (Go.Proofs.Try.prog.funcs[48]?).all (fun fn => !(fn.name == "runtime.NumGoroutine")) = true:=by kernel_rfl
theorem follows : Go.Proofs.Try.prog.follows .mixedOrders = true:=by kernel_rfl
theorem ov162 : PrimOk Go.Proofs.Try.prog 162 ovP:=ovP_ok ⟨_,68,4,_,_,Go.Proofs.Try.func162,by kernel_rfl,by kernel_rfl,by kernel_rfl,by kernel_rfl,Go.Proofs.Try.underlying68,rfl⟩
theorem fc161 : compF Go.Proofs.Try.prog 161 = some (95,r161,c161):=by rfl
theorem fn161 : (Go.Proofs.Try.prog.funcs[161]?).all (fun fn => !(fn.name == "runtime.NumGoroutine")) = true:=by kernel_rfl
theorem g161 : GoFn Go.Proofs.Try.prog 161 95 [.tmp 6] (insC 2 16 zR 162 163):=by
 have h:=go_ok fc161 fn161
 rw [t_insR] at h
 exact h
theorem fc112 : compF Go.Proofs.Try.prog 112 = some (224,r112,c112):=by rfl
theorem fn112 : (Go.Proofs.Try.prog.funcs[112]?).all (fun fn => !(fn.name == "runtime.NumGoroutine")) = true:=by kernel_rfl
theorem g112 : GoFn Go.Proofs.Try.prog 112 224 [.tmp 8] (repC 2 16 zR 161 162 163 164):=by
 have h:=go_ok fc112 fn112
 rw [t_repR] at h
 exact h
theorem fc111 : compF Go.Proofs.Try.prog 111 = some (8,r111,c111):=by rfl
theorem fn111 : (Go.Proofs.Try.prog.funcs[111]?).all (fun fn => !(fn.name == "runtime.NumGoroutine")) = true:=by kernel_rfl
theorem g111 : GoFn Go.Proofs.Try.prog 111 8 [.tmp 2] (cloC 2 16 zR):=by
 have h:=go_ok fc111 fn111
 rw [t_cloR] at h
 exact h
def ftP : FT
 | 162 => some (.prim ovP)
 | _ => none
theorem ftP_ok : FTOk Go.Proofs.Try.prog ftP:=by
 intro k d h
 unfold ftP at h
 split at h
 ·cases h; exact ov162
 ·cases h
theorem p161 : PrimOk Go.Proofs.Try.prog 161 (insP 2 16):=slP_ok follows ftP_ok g161 (insP_sl (ft:=ftP) rfl rfl (by decide))
def ftP2 : FT
 | 162 => some (.prim ovP)
 | 161 => some (.prim (insP 2 16))
 | _ => none
theorem ftP2_ok : FTOk Go.Proofs.Try.prog ftP2:=by
 intro k d h
 unfold ftP2 at h
 split at h
 ·cases h; exact ov162
 ·cases h; exact p161
 ·cases h
theorem p112 : PrimOk Go.Proofs.Try.prog 112 (repP 2 16):=slP_ok follows ftP2_ok g112 (repP_sl (ft:=ftP2) rfl rfl rfl (by decide))
theorem ft_ok : FTOk Go.Proofs.Try.prog ft:=by
 intro k d h
 unfold ft at h
 split at h
 ·cases h; exact go_ok fc40 fn40
 ·cases h; exact go_ok fc41 fn41
 ·cases h; exact go_ok fc42 fn42
 ·cases h; exact go_ok fc43 fn43
 ·cases h; exact go_ok fc45 fn45
 ·cases h; exact go_ok fc49 fn49
 ·cases h; exact go_ok fc51 fn51
 ·cases h; exact go_ok fc52 fn52
 ·cases h; exact go_ok fc53 fn53
 ·cases h; exact go_ok fc54 fn54
 ·cases h; exact go_ok fc105 fn105
 ·cases h; exact go_ok fc106 fn106
 ·cases h; exact go_ok fc107 fn107
 ·cases h; exact go_ok fc108 fn108
 ·cases h; exact go_ok fc110 fn110
 ·cases h; exact go_ok fc113 fn113
 ·cases h; exact go_ok fc114 fn114
 ·cases h; exact go_ok fc115 fn115
 ·cases h; exact go_ok fc116 fn116
 ·cases h; exact go_ok fc117 fn117
 ·cases h; exact go_ok fc158 fn158
 ·cases h; exact go_ok fc160 fn160
 ·cases h; exact go_ok fc165 fn165
 ·cases h; exact ecloP_ok follows g111
 ·cases h; exact p112
 ·cases h; exact sort159
 ·cases h
theorem ftO_ok : FTOk Go.Proofs.Try.prog ftO:=by
 intro k d h
 unfold ftO at h
 split at h
 ·cases h; exact go_ok fc109 fn109
 ·exact ft_ok _ _ h
theorem ftM_ok : FTOk Go.Proofs.Try.prog ftM:=by
 intro k d h
 unfold ftM at h
 split at h
 ·cases h; exact roP_ok (goP_ok follows ftO_ok ⟨_,_,_,rfl⟩)
 ·exact ft_ok _ _ h
end Go.VI
set_option linter.unusedSimpArgs false
namespace Go.VI
theorem RD.mono {P : Program} {W : World} {t : TypeId} {E E' : List AV → Prop} (h : RD P W t E) (hE : ∀ xs,E xs → E' xs) : RD P W t E':=fun H enc base spare held fuel cs x hx hw => by
 obtain ⟨xs,h1,h2⟩:=h H enc base spare held fuel cs x hx hw
 exact ⟨xs,hE xs h1,h2⟩
theorem rows_map {α : Type} {g : α → List AV} {p : α → Prop} : ∀ {rows : List (List AV)},(∀ r ∈ rows,∃ x,r = g x ∧ p x) → ∃ l : List α,rows = l.map g ∧ ∀ x ∈ l,p x
 | [],_ => ⟨[],rfl,by simp⟩
 | r :: rows,h => by
  obtain ⟨x,rfl,hx⟩:=h r List.mem_cons_self
  obtain ⟨l,rfl,hl⟩:=rows_map fun r hr => h r (List.mem_cons_of_mem _ hr)
  exact ⟨x :: l,rfl,fun y hy => by
   rcases List.mem_cons.1 hy with rfl | hy
   ·exact hx
   ·exact hl y hy⟩
theorem CVF.append {F : Fz} {a b : List AV} {cs : List Value} {n : Nat} (hn : n ≤ cs.length) (ha : CVF F a (cs.take n)) (hb : CVF F b (cs.drop n)) : CVF F (a ++ b) cs:=by
 have hla : a.length = n:=by rw [ha.1,List.length_take]; omega
 refine ⟨by rw [List.length_append,hb.1,hla,List.length_drop]; omega,fun i c h => ?_⟩
 by_cases hi : i < n
 ·rw [List.getElem?_append_left (by omega)] at h
  obtain ⟨h1,h2⟩:=ha.2 i c h
  refine ⟨h1,?_⟩
  rwa [List.getD_eq_getElem?_getD,List.getElem?_take_of_lt hi,← List.getD_eq_getElem?_getD] at h2
 ·rw [List.getElem?_append_right (by omega)] at h
  obtain ⟨h1,h2⟩:=hb.2 _ c h
  refine ⟨h1,?_⟩
  rw [List.getD_eq_getElem?_getD,List.getElem?_drop] at h2
  rw [List.getD_eq_getElem?_getD]
  rwa [show n + (i - a.length) = i by omega] at h2
theorem rd_elems {P : Program} {W : World} {e : TypeId} {E : List AV → Prop} (he : RD P W e E) {sz : Nat} {H : Type} {enc : TypeId × Value → H} {base : Nat} {spare : Nat → Bool} {held : Bool} {m : Nat} :
  ∀ (n : Nat) (cs : List Value) (xs : List (DataW H × List MemPlace)),xs.length = n → cs.length = n * sz →
   (∀ i,i < n → DataW.trod enc P W base spare held m e ((cs.drop (i * sz)).take sz) = xs[i]?) → (∀ k ∈ DataW.weightsAll P e (xs.map (·.1)),k ≤ reachBytes) →
   ∃ rows : List (List AV),rows.length = n ∧ (∀ r ∈ rows,E r ∧ r.length = sz) ∧ CVF (frzW W) rows.flatten cs
 | 0,cs,xs,_,hc,_,_ => ⟨[],rfl,by simp,by
   rw [Nat.zero_mul] at hc
   exact ⟨hc.symm,fun i c h => by simp at h⟩⟩
 | n + 1,cs,[],hl,_,_,_ => by simp at hl
 | n + 1,cs,x :: xs,hl,hc,hx,hw => by
  simp only [List.length_cons,Nat.add_right_cancel_iff] at hl
  rw [Nat.add_one_mul] at hc
  have h0:=hx 0 (by omega)
  rw [Nat.zero_mul,List.drop_zero,List.getElem?_cons_zero] at h0
  simp only [List.map_cons,DataW.weightsAll,List.mem_append] at hw
  obtain ⟨r,h1,h2⟩:=he H enc base spare held m _ x h0 fun k hk => hw k (.inl hk)
  have hlr : r.length = sz:=by rw [h2.1,List.length_take]; omega
  obtain ⟨rows,q1,q2,q3⟩:=rd_elems he (sz:=sz) (enc:=enc) (base:=base) (spare:=spare) (held:=held) (m:=m) n (cs.drop sz) xs hl (by rw [List.length_drop]; omega) (fun i hi => by
   have:=hx (i + 1) (by omega)
   rw [List.getElem?_cons_succ] at this
   rw [List.drop_drop,← this,Nat.add_one_mul,Nat.add_comm]) fun k hk => hw k (.inr hk)
  refine ⟨r :: rows,by simp [q1],fun y hy => ?_,?_⟩
  ·rcases List.mem_cons.1 hy with rfl | hy
   ·exact ⟨h1,hlr⟩
   ·exact q2 y hy
  ·rw [List.flatten_cons]
   exact .append (n:=sz) (by omega) h2 q3
theorem rd_array {P : Program} {W : World} {t e : TypeId} {E : List AV → Prop} {n sz : Nat} (ht : P.underlying t = some (.array n e)) (hc : P.cellsOf e = sz) (hct : P.cellsOf t = n * sz) (he : RD P W e E) :
  RD P W t fun xs => ∃ rows : List (List AV),xs = rows.flatten ∧ rows.length = n ∧ ∀ r ∈ rows,E r ∧ r.length = sz:=fun H enc base spare held fuel cs x h hw => by
 obtain ⟨xs,m,rfl,rfl,hl,hx,hf⟩:=DataW.trod_array ht h
 rw [hc] at hf
 obtain ⟨rows,q1,q2,q3⟩:=rd_elems he n cs xs hx (by rw [hl,hct]) hf fun k hk => hw k (by simpa [DataW.weights,ht] using hk)
 exact ⟨_,⟨rows,rfl,q1,q2⟩,q3⟩
theorem okWide_agg {P : Program} {w : World} {r : Reach} {base : Nat} {t e : TypeId} {n : Nat} {v : Value} (ht : P.underlying t = some (.array n e)) (h : Value.okWide P w r base t v) : ∃ cs,v = .agg cs:=by
 unfold Value.okWide at h
 rw [ht] at h
 obtain ⟨cs,h1,_⟩:=h
 exact ⟨cs,h1⟩
theorem okWide_stc {P : Program} {w : World} {r : Reach} {base : Nat} {t : TypeId} {fs : Array Field} {v : Value} (ht : P.underlying t = some (.struct fs)) (h : Value.okWide P w r base t v) : ∃ cs,v = .agg cs:=by
 unfold Value.okWide at h
 rw [ht] at h
 obtain ⟨cs,h1,_⟩:=h
 exact ⟨cs,h1⟩
def CVA (F : Fz) (xs : List AV) (cs : List Value) : Prop:=xs.length = cs.length ∧ ∀ i c,xs[i]? = some c → VF F c (cs.getD i undef)
theorem CVF.cva {F : Fz} {xs : List AV} {cs : List Value} (h : CVF F xs cs) : CVA F xs cs:=⟨h.1,fun i c hc => (h.2 i c hc).2⟩
theorem CVA.one {F : Fz} {a : AV} {v : Value} (h : VF F a v) : CVA F [a] [v]:=⟨rfl,fun i c hc => by
 cases i with
 | zero => cases hc; exact h
 | succ i => simp at hc⟩
theorem CVA.cons {F : Fz} {a : AV} {v : Value} {l : List AV} {vs : List Value} (h : CVA F [a] [v]) (ht : CVA F l vs) : CVA F (a :: l) (v :: vs):=⟨by simp [ht.1],fun i c hc => by
 cases i with
 | zero => exact h.2 0 c hc
 | succ i => exact ht.2 i c hc⟩
theorem CVA.agg {F : Fz} {xs : List AV} {cs : Array Value} (h : CVF F xs cs.toList) : CVA F [.agg xs] [.agg cs] :=
 .one (.agg (by have:=h.1; simpa using this.symm) (fun i c hc => (h.2 i c hc).1) (fun i c hc => by
  have:=(h.2 i c hc).2
  rwa [List.getD_eq_getElem?_getD,Array.getElem?_toList,← Array.getD_eq_getD_getElem?] at this))
theorem vrs_ofA {F : Fz} {m : Mp} {args : List AV} {vs : List Value} (h : CVA F args vs) : VRs m F args vs.toArray:=by
 refine ⟨?_,?_⟩
 ·simp [h.1]
 ·intro i c hc
  have:=h.2 i c hc
  simpa using VR.fz this
end Go.VI
namespace Go.VI
open Go.Proofs
def okR (l : List RunM) : Prop:=True
def okRn (x : RunM) : Prop:=True
variable (W : World)
theorem rdInt : RD Try.prog W 3 fun xs => ∃ n,xs = [int n] ∧ (Lit.int .i64 n).wf = true:=rd_int Try.underlying3
theorem rdRn : RD Try.prog W 79 fun xs => ∃ x : RunM,xs = runC x ∧ okRn x :=
 (rd_struct (Es:=[_,_]) Try.underlying79 (by kernel_rfl) ⟨rdInt W,rdInt W,trivial⟩).mono fun xs h => by
  obtain ⟨_,_,rfl,⟨a,rfl,_⟩,_,_,rfl,⟨b,rfl,_⟩,rfl⟩:=h
  exact ⟨(a,b),rfl,trivial⟩
theorem rdR : RD Try.prog W 62 fun xs => ∃ l : List RunM,xs = [encR l] ∧ okR l :=
 (rd_slice (sz:=2) (B:=16) Try.underlying62 (by kernel_rfl) (by decide) (by kernel_rfl) (rdRn W)).mono fun xs ⟨rows,h1,h2,h3⟩ => by
  obtain ⟨l,rfl,hl⟩:=rows_map (g:=runC) (p:=okRn) fun r hr => (h2 r hr).1
  exact ⟨l,h1,trivial⟩
end Go.VI
namespace Go.VI
open Go.Proofs
variable (W : World)
def encA3 (p : Int × Int × Int) : List AV:=[int p.1,int p.2.1,int p.2.2]
def okA3 (p : Int × Int × Int) : Prop:=True
theorem rdA3 : RD Try.prog W 53 fun xs => ∃ p : Int × Int × Int,xs = encA3 p ∧ okA3 p :=
 (rd_array (n:=3) (sz:=1) Try.underlying53 (by kernel_rfl) (by kernel_rfl) (rdInt W)).mono fun xs ⟨rows,h1,h2,h3⟩ => by
  match rows,h2 with
  | [r,s,t],_ =>
   obtain ⟨⟨a,rfl,ha⟩,_⟩:=h3 r (by simp)
   obtain ⟨⟨b,rfl,hb⟩,_⟩:=h3 s (by simp)
   obtain ⟨⟨c,rfl,hc⟩,_⟩:=h3 t (by simp)
   exact ⟨(a,b,c),h1,trivial⟩
end Go.VI
namespace Go.VI
section
variable {ft : FT} {κ : Caps} {nid : Nat} {e : Env} {H : Heap} {K : AV → Heap → Prop}
theorem xd_nilck (x : Operand) : dop ft κ nid e H (.nilck x) K ↔ VW ft nid e H (.nilck x) K:=Iff.rfl
theorem xd_mput (kd : Option IntKind) (m k v : Operand) : dop ft κ nid e H (.mput kd m k v) K ↔ VW ft nid e H (.mput kd m k v) K:=Iff.rfl
theorem xd_rng (x : Operand) : dop ft κ nid e H (.mrng x) K ↔ rngW nid H (ev e x) K:=Iff.rfl
theorem xd_nxt (x : Operand) : dop ft κ nid e H (.mnxt x) K ↔ nxtW H (ev e x) K:=Iff.rfl
theorem xd_ent (x : Operand) : dop ft κ nid e H (.ment x) K ↔ entW H (ev e x) K:=Iff.rfl
theorem xd_del (kd : IntKind) (m k : Operand) : dop ft κ nid e H (.mdel kd m k) K ↔ delW kd H (ev e m) (ev e k) K:=Iff.rfl
theorem rngW_congr {nid' : Nat} {x x' : AV} {H' : Heap} (h0 : nid = nid') (h : x = x') (h1 : H = H') : rngW nid H x K = rngW nid' H' x' K:=by rw [h0,h,h1]
theorem nxtW_congr {x x' : AV} {H' : Heap} (h : x = x') (h1 : H = H') : nxtW H x K = nxtW H' x' K:=by rw [h,h1]
theorem entW_congr {x x' : AV} {H' : Heap} (h : x = x') (h1 : H = H') : entW H x K = entW H' x' K:=by rw [h,h1]
theorem delW_congr {kd : IntKind} {x x' k k' : AV} {H' : Heap} (h : x = x') (h2 : k = k') (h1 : H = H') : delW kd H x k K = delW kd H' x' k' K:=by rw [h,h2,h1]
theorem rngW_mp {id ck : Nat} {kd : Option IntKind} {es : List (AV × AV)} {bs : List Nat} (hg : H.get id = some (.mpb kd es bs ck)) : rngW nid H (.mp id) K ↔ K (.ptr nid 0 0) (H.put nid (.itb id ck [] ck)):=by
 constructor
 ·rintro ⟨id',kd',es',bs',ck',h1,h2,h3⟩
  cases h1
  rw [hg] at h2
  cases h2
  exact h3
 ·exact fun h => ⟨_,_,_,_,_,rfl,hg,h⟩
end
set_option linter.defProp false
def vxm:=And.intro @xd_nilck <| And.intro @xd_mput <| And.intro @xd_rng <| And.intro @xd_nxt <| And.intro @xd_ent @xd_del
def Forgets (H2 H' : Heap) : Prop:=H'.next = H2.next ∧ ∀ i B,H'.get i = some B → B = .dead ∨ H2.get i = some B
section
variable {P : Program}
theorem Inv.forget {m : Mp} {F : Fz} {H2 H' : Heap} {w : World} (hI : Inv P m F H2 w) (h : Forgets H2 H') : Inv P m F H' w:=by
 refine ⟨hI.fz,fun id mb hm => ?_,fun id mb B hm hB => ?_,fun i j mi mj hi hj li lj e => ?_⟩
 ·rw [h.1]
  exact hI.lt id mb hm
 ·rcases h.2 id B hB with rfl | hB2
  ·exact trivial
  ·exact hI.blk id mb B hm hB2
 ·have lv : ∀ {k : Nat},live H' k → live H2 k:=fun ⟨B,h1,h2⟩ => by
   rcases h.2 _ B h1 with e | h3
   ·exact absurd e h2
   ·exact ⟨B,h3,h2⟩
  exact hI.inj i j mi mj hi hj (lv li) (lv lj) e
def SlF (ft : FT) (n : Nat) (rs : List ARes) (body : ACode) (p : List AV → Heap → Option (AV × Heap)) : Prop:=∀ args H r H',p args H = some (r,H') →
 dCall ft (fun _ => none) n rs body args H fun r2 H2 => (r2 = r ∨ (r2 = .sc (.slice none 0 0) ∧ r = .lst [])) ∧ Forgets H2 H'
theorem vr_nil_lst {m : Mp} {F : Fz} {u : Value} (h : VR m F (.sc (.slice none 0 0)) u) : VR m F (.lst []) u:=by
 obtain ⟨rfl,_⟩:=vr_sc h
 exact .fz (.lst (sz:=0) (b:=0) (o:=0) (fun _ _ => undef) (Nat.le_refl _) (fun h => absurd rfl h) (by simp) (by simp) (by simp) (by simp))
theorem slF_ok (hP : P.follows .mixedOrders = true) {ft : FT} (hft : FTOk P ft) {k : FuncId} {n : Nat} {rs : List ARes} {body : ACode} (hg : GoFn P k n rs body) {p : List AV → Heap → Option (AV × Heap)} (hp : SlF ft n rs body p) : PrimOk P k p:=by
 intro args H H' r h m F w vs hI hv
 obtain ⟨h1,h2⟩:=dx_calls hP hft hg hI (κ:=fun _ => none) (fun id cn h => by cases h) hv (hp args H r H' h)
 refine .inl ⟨h1,h2.mono fun en w' ⟨r2,H2,⟨h3,h4⟩,u,m',F',he,q1,q2,q3,q4⟩ => ⟨u,m',F',he,?_,q2.forget h4,q3,?_⟩⟩
 ·rcases h3 with rfl | ⟨rfl,rfl⟩
  ·exact q1
  ·exact vr_nil_lst q1
 ·exact ⟨q4.1,by rw [h4.1]; exact q4.2⟩
end
end Go.VI
namespace Go.VI
attribute [local congr] AW_congr OW_congr DW_congr NW_congr VW_congr GW_congr PW_congr KW_congr ite_congr' GV_congr CV_congr dx_congr dOW_congr dop_congr CP_congr AQ_congr AZ_congr callD_congr NQ_congr rngW_congr nxtW_congr entW_congr delW_congr
noncomputable def ftK : FT
 | 121 => some (.go true 3 r121 c121)
 | 122 => some (.go true 14 r122 c122)
 | 133 => some (.go true 7 r133 c133)
 | 124 => some (.go true 9 r124 c124)
 | _ => none
def cloMP (args : List AV) (H : Heap) : Option (AV × Heap) :=
 match args with
 | [.mp mid] => match H.get mid with
  | some (.mpb kd es bs ck) => some (.mp H.next,hx H [.mpb kd es bs ck])
  | _ => none
 | _ => none
noncomputable def ftU : FT
 | 52 => some (.pprim (goP ftM 52))
 | 111 => some (.pprim (cloF 2 16))
 | 132 => some (.prim cloMP)
 | 121 => some (.prim (roP (goP ftK 121)))
 | 122 => some (.prim (roP (goP ftK 122)))
 | 133 => some (.prim (roP (goP ftK 133)))
 | 124 => some (.prim (roP (goP ftK 124)))
 | _ => none
theorem rgt_len : ∀ {l : List RunM} {e : Int},rgtL e l = true → e ≤ 32768 → (l.length : Int) ≤ 32768 - e
 | [],e,_,h => by simp; omega
 | x :: l,e,h,he => by
  obtain ⟨h1,h2,h3⟩:=rgt_cons.1 h
  have m:=mayM_iff.1 h1
  have ex : endM x = x.1 + x.2:=rfl
  have:=rgt_len h3 (by omega)
  simp only [List.length_cons]
  omega
theorem right_len {l : List RunM} (h : rightM l = true) : l.length ≤ 40000:=by
 have:=rgt_len h (by omega)
 omega
theorem goP_val {ft : FT} {k : FuncId} {args : List AV} {v : AV} {H' : Heap} (hc : closedL args = true) (h : callL ft (.fn (.func k) [] []) args Heap.empty = some (v,H')) : goP ft k args = some v:=by
 unfold goP
 rw [if_pos hc,h]
 rfl
abbrev HeldM:=List (Int × List RunM)
def entC (x : Int × List RunM) : AV × AV:=(int x.1,encR x.2)
structure PoolM where
 pages : Int
 limit : Int
 free : List RunM
 held : HeldM
structure HeldH (hd : HeldM) (bs : List Nat) (ck : Nat) : Prop where
 len : bs.length = hd.length
 nd : bs.Nodup
 lt : ∀ b ∈ bs,b < ck
 keys : (hd.map (·.1)).Nodup
 rg : ∀ x ∈ hd,rightM x.2 = true
structure PoolH (H : Heap) (pid mid : Nat) (p : PoolM) (bs : List Nat) (ck : Nat) : Prop where
 box : H.get pid = some (.box false [int p.pages,int p.limit,encR p.free,.mp mid])
 map : H.get mid = some (.mpb (some .i64) (p.held.map entC) bs ck)
 hd : HeldH p.held bs ck
 free : rightM p.free = true
noncomputable def unionSel (hb : Int → Bool) (hd : HeldM) : List RunM:=(hd.filter fun x => hb x.1).foldl (fun acc x => unionM acc x.2) []
theorem unionF_ok : ∀ (l : HeldM) (acc : List RunM),rightM acc = true → rightM (l.foldl (fun acc x => unionM acc x.2) acc) = true ∧ ∀ p,inR (l.foldl (fun acc x => unionM acc x.2) acc) p = (inR acc p || l.any fun x => inR (cleanM x.2) p)
 | [],acc,h => ⟨h,fun p => by simp⟩
 | x :: l,acc,h => by
  have hu:=unionM_ok acc x.2
  have:=unionF_ok l (unionM acc x.2) hu.1
  refine ⟨this.1,fun p => ?_⟩
  rw [List.foldl_cons,this.2,hu.2,clean_of h,List.any_cons,Bool.or_assoc]
theorem unionSel_ok (hb : Int → Bool) (hd : HeldM) : rightM (unionSel hb hd) = true ∧ ∀ p,inR (unionSel hb hd) p = true ↔ ∃ x ∈ hd,hb x.1 = true ∧ inR (cleanM x.2) p = true:=by
 have:=unionF_ok (hd.filter fun x => hb x.1) [] rfl
 refine ⟨this.1,fun p => ?_⟩
 unfold unionSel
 rw [this.2,inR_nil,Bool.false_or,List.any_eq_true]
 constructor
 ·rintro ⟨x,hx,h⟩
  rw [List.mem_filter] at hx
  exact ⟨x,hx.1,hx.2,h⟩
 ·rintro ⟨x,hx,h1,h2⟩
  exact ⟨x,List.mem_filter.2 ⟨hx,h1⟩,h2⟩
def TestG (T : FT) (B : Nat) (G : AV) (H : Heap) (hb : Int → Bool) : Prop:=∀ H',(∀ j,j < B → H'.get j = H.get j) → ∀ t,callL T G [int t] H' = some (boolA (hb t),H')
theorem ku52 {a b : List RunM} (ha : a.length ≤ 100000) (hb : b.length ≤ 100000) {A : AV} (hA : A = encR a ∨ (A = .sc (.slice none 0 0) ∧ a = [])) {H : Heap} {Q : AV → Heap → Prop} : KW ftU (.fn (.func 52) [] []) [A,encR b] H Q ↔ Q (encR (unionM a b)) H:=by
 refine KW_of (call_pprim (as':=[encR a,encR b]) (p:=goP ftM 52) rfl ?_ (goP_val rfl (callL_sub ftM_sub (s52 a b ha hb Heap.empty))))
 rcases hA with rfl | ⟨rfl,rfl⟩ <;> rfl
theorem cd52 {a b : List AV} : calleeD ftU (.fn (.func 52) a b) = none:=rfl
theorem nodup_idx {bs : List Nat} (h : bs.Nodup) {i j b : Nat} (h1 : bs[i]? = some b) (h2 : bs[j]? = some b) : j = i:=by
 obtain ⟨g1,e1⟩:=List.getElem?_eq_some_iff.1 h1
 obtain ⟨g2,e2⟩:=List.getElem?_eq_some_iff.1 h2
 have hp:=List.pairwise_iff_getElem.1 h
 rcases Nat.lt_trichotomy i j with hlt | rfl | hlt
 ·exact absurd (e1.trans e2.symm) (hp i j g1 g2 hlt)
 ·rfl
 ·exact absurd (e2.trans e1.symm) (hp j i g2 g1 hlt)
structure SeenU (hb : Int → Bool) (hd : HeldM) (bs seen : List Nat) (acc : List RunM) : Prop where
 nd : seen.Nodup
 sub : ∀ b ∈ seen,b ∈ bs
 rg : rightM acc = true
 at_ : ∀ p,inR acc p = true ↔ ∃ (i : Nat) (b : Nat) (x : Int × List RunM),bs[i]? = some b ∧ hd[i]? = some x ∧ b ∈ seen ∧ hb x.1 = true ∧ inR (cleanM x.2) p = true
theorem SeenU.nil (hb : Int → Bool) (hd : HeldM) (bs : List Nat) : SeenU hb hd bs [] [] :=
 ⟨List.nodup_nil,by simp,rfl,fun p => by simp [inR_nil]⟩
theorem SeenU.step {hb : Int → Bool} {hd : HeldM} {bs seen : List Nat} {acc : List RunM} (h : SeenU hb hd bs seen acc) (hbs : bs.Nodup) {i b : Nat} {x : Int × List RunM} (h1 : bs[i]? = some b) (h2 : hd[i]? = some x) (h3 : b ∉ seen) : SeenU hb hd bs (seen ++ [b]) (if hb x.1 then unionM acc x.2 else acc):=by
 have huniq : ∀ j,bs[j]? = some b → j = i:=fun j hj => nodup_idx hbs h1 hj
 refine ⟨?_,fun c hc => ?_,?_,fun p => ?_⟩
 ·rw [List.nodup_append]
  exact ⟨h.nd,by simp,fun c hc d hd e => by simp at hd; subst hd; exact h3 (e ▸ hc)⟩
 ·rcases List.mem_append.1 hc with hc | hc
  ·exact h.sub c hc
  ·simp at hc
   rw [hc]
   exact List.mem_of_getElem? h1
 ·split
  ·exact (unionM_ok acc x.2).1
  ·exact h.rg
 ·have key : (∃ (i : Nat) (c : Nat) (y : Int × List RunM),bs[i]? = some c ∧ hd[i]? = some y ∧ c ∈ seen ++ [b] ∧ hb y.1 = true ∧ inR (cleanM y.2) p = true) ↔ inR acc p = true ∨ (hb x.1 = true ∧ inR (cleanM x.2) p = true):=by
   rw [h.at_]
   constructor
   ·rintro ⟨j,c,y,a1,a2,a3,a4,a5⟩
    rcases List.mem_append.1 a3 with a3 | a3
    ·exact .inl ⟨j,c,y,a1,a2,a3,a4,a5⟩
    ·simp at a3
     subst a3
     obtain rfl:=huniq j a1
     rw [h2] at a2
     cases a2
     exact .inr ⟨a4,a5⟩
   ·rintro (⟨j,c,y,a1,a2,a3,a4,a5⟩ | ⟨a4,a5⟩)
    ·exact ⟨j,c,y,a1,a2,List.mem_append.2 (.inl a3),a4,a5⟩
    ·exact ⟨i,b,x,h1,h2,by simp,a4,a5⟩
  rw [key]
  cases e : hb x.1 with
  | false => simp
  | true =>
   rw [if_pos rfl,(unionM_ok acc x.2).2,clean_of h.rg,Bool.or_eq_true]
   simp
theorem SeenU.fin {hb : Int → Bool} {hd : HeldM} {bs seen : List Nat} {acc : List RunM} (h : SeenU hb hd bs seen acc) (hl : bs.length = hd.length) (ha : ∀ b ∈ bs,b ∈ seen) : acc = unionSel hb hd:=by
 have hu:=unionSel_ok hb hd
 refine right_ext h.rg hu.1 fun p => beq_iff' ?_
 rw [h.at_,hu.2]
 constructor
 ·rintro ⟨i,b,x,h1,h2,h3,h4,h5⟩
  exact ⟨x,List.mem_of_getElem? h2,h4,h5⟩
 ·rintro ⟨x,hx,h4,h5⟩
  obtain ⟨i,hi⟩:=List.getElem?_of_mem hx
  have hlt : i < bs.length:=by have:=(List.getElem?_eq_some_iff.1 hi).1; omega
  exact ⟨i,bs[i],x,List.getElem?_eq_getElem hlt,hi,ha _ (List.getElem_mem hlt),h4,h5⟩
def leftU (bs seen : List Nat) : Nat:=(bs.filter fun b => !seen.contains b).length
theorem leftU_step {bs seen : List Nat} {b : Nat} (h1 : b ∈ bs) (h2 : b ∉ seen) : leftU bs (seen ++ [b]) < leftU bs seen:=by
 unfold leftU
 have e : (bs.filter fun c => !(seen ++ [b]).contains c) = (bs.filter fun c => !seen.contains c).filter fun c => !(c == b):=by
  rw [List.filter_filter]
  refine List.filter_congr fun c _ => ?_
  simp only [List.contains_eq_mem,List.mem_append,List.mem_singleton,Bool.decide_or,Bool.not_or]
  rw [Bool.and_comm]
  congr 1
 rw [e,List.length_filter_lt_length_iff_exists]
 exact ⟨b,List.mem_filter.2 ⟨h1,by simpa using h2⟩,by simp⟩
def IU (H : Heap) (pid mid : Nat) (p : PoolM) (bs : List Nat) (ck : Nat) (G : AV) (hb : Int → Bool) (n : Nat) (e : Env) (H' : Heap) : Prop :=
 ∃ seen acc A f,e = mkE 25 f ∧ H' = hx H [.itb mid ck seen ck] ∧ f 0 = .ptr pid 0 0 ∧ f 1 = G ∧ f 5 = A ∧ (A = encR acc ∨ (A = .sc (.slice none 0 0) ∧ acc = [])) ∧ f 12 = .ptr H.next 0 0 ∧ SeenU hb p.held bs seen acc ∧ n = leftU bs seen
theorem union_dx {H : Heap} {pid mid : Nat} {p : PoolM} {bs : List Nat} {ck : Nat} {G : AV} {hb : Int → Bool} (hp : PoolH H pid mid p bs ck) (hG : TestG ftU H.next G H hb) (hGd : calleeD ftU G = none) :
  dCall ftU (fun _ => none) 25 r120 c120 [.ptr pid 0 0,G] H fun r2 H2 => (r2 = encR (unionSel hb p.held) ∨ (r2 = .sc (.slice none 0 0) ∧ encR (unionSel hb p.held) = .lst [])) ∧ Forgets H2 (hx H [.dead]):=by
 unfold dCall
 rw [enterE_mkE _ _ (by simp),← hx_nil H]
 unfold c120 r120
 have q0:=fun L => get_old hp.box L
 have q1:=fun L => get_old hp.map L
 have rg:=fun (L : List Blk) nid K => @rngW_mp nid (hx H L) K mid ck _ _ _ (q1 L)
 have kG : ∀ t L Q,KW ftU G [.sc (.int .i64 t)] (hx H L) Q ↔ Q (.sc (.bool (hb t))) (hx H L):=fun t L Q => KW_of (hG (hx H L) (fun j hj => hx_get_old _ _ _ hj) t)
 simp only [vx,vxm,↓vp,vz,Nat.reduceLT,Nat.reduceEqDiff,Nat.reduceLeDiff,Nat.reduceAdd,Nat.reduceSub,Nat.reduceMul,Int.reduceBEq,Int.reduceBNe,Int.reduceLT,Int.reduceLE,Int.reduceEq,reduceIte,reduceCtorEq,da,int,boolA,q0,rg]
 refine ⟨IU H pid mid p bs ck G hb,⟨_,[],[],.sc (.slice none 0 0),_,rfl,rfl,?_,?_,?_,.inr ⟨rfl,rfl⟩,?_,SeenU.nil _ _ _,rfl⟩,?_⟩
 any_goals (simp only [↓vp,vz,Nat.reduceLT,Nat.reduceEqDiff,Nat.reduceLeDiff,Nat.reduceAdd,Nat.reduceSub,Nat.reduceMul,Int.reduceBEq,Int.reduceBNe,Int.reduceLT,Int.reduceLE,Int.reduceEq,reduceIte,reduceCtorEq,da,int,boolA]; done)
 rintro n e H' ⟨seen,acc,A,f,rfl,rfl,q00,q01,q05,hA,q12,hs,rfl⟩
 unfold c120L0
 simp only [vx,vxm,↓vp,vz,Nat.reduceLT,Nat.reduceEqDiff,Nat.reduceLeDiff,Nat.reduceAdd,Nat.reduceSub,Nat.reduceMul,Int.reduceBEq,Int.reduceBNe,Int.reduceLT,Int.reduceLE,Int.reduceEq,reduceIte,reduceCtorEq,da,int,boolA,q12]
 refine ⟨H.next,mid,ck,seen,ck,_,_,bs,ck,rfl,hx_get0 _ _,q1 _,hp.hd.lt,Nat.le_refl _,fun i k v b h1 h2 h3 => ?_,fun hall => ?_⟩
 ·rw [List.getElem?_map,Option.map_eq_some_iff] at h1
  obtain ⟨x,hx1,hxe⟩:=h1
  cases hxe
  have hs':=hs.step hp.hd.nd h2 hx1 h3
  have hl2:=right_len (hp.hd.rg x (List.mem_of_getElem? hx1))
  have hl1:=right_len hs.rg
  have hlt:=leftU_step (List.mem_of_getElem? h2) h3
  rw [hx_set0]
  simp only [vx,vxm,↓vp,vz,Nat.reduceLT,Nat.reduceEqDiff,Nat.reduceLeDiff,Nat.reduceAdd,Nat.reduceSub,Nat.reduceMul,Int.reduceBEq,Int.reduceBNe,Int.reduceLT,Int.reduceLE,Int.reduceEq,reduceIte,reduceCtorEq,da,int,boolA,q12]
  refine ⟨H.next,mid,ck,seen,b,_,_,bs,ck,rfl,hx_get0 _ _,q1 _,hp.hd.nd,i,_,_,by rw [List.getElem?_map,hx1]; rfl,h2,?_⟩
  simp only [entC]
  cases hbx : hb x.1 with
  | false =>
   rw [hbx] at hs'
   simp only [Bool.false_eq_true,if_false] at hs'
   simp only [vx,vxm,↓vp,vz,Nat.reduceLT,Nat.reduceEqDiff,Nat.reduceLeDiff,Nat.reduceAdd,Nat.reduceSub,Nat.reduceMul,Int.reduceBEq,Int.reduceBNe,Int.reduceLT,Int.reduceLE,Int.reduceEq,reduceIte,reduceCtorEq,da,int,boolA,q01,q12,hGd,kG,hbx]
   exact ⟨_,hlt,seen ++ [b],acc,A,_,rfl,rfl,by simp only [↓vp,vz,Nat.reduceLT,Nat.reduceEqDiff,Nat.reduceLeDiff,Nat.reduceAdd,Nat.reduceSub,Nat.reduceMul,Int.reduceBEq,Int.reduceBNe,Int.reduceLT,Int.reduceLE,Int.reduceEq,reduceIte,reduceCtorEq,da,int,boolA,q00],by simp only [↓vp,vz,Nat.reduceLT,Nat.reduceEqDiff,Nat.reduceLeDiff,Nat.reduceAdd,Nat.reduceSub,Nat.reduceMul,Int.reduceBEq,Int.reduceBNe,Int.reduceLT,Int.reduceLE,Int.reduceEq,reduceIte,reduceCtorEq,da,int,boolA,q01],by simp only [↓vp,vz,Nat.reduceLT,Nat.reduceEqDiff,Nat.reduceLeDiff,Nat.reduceAdd,Nat.reduceSub,Nat.reduceMul,Int.reduceBEq,Int.reduceBNe,Int.reduceLT,Int.reduceLE,Int.reduceEq,reduceIte,reduceCtorEq,da,int,boolA,q05],hA,by simp only [↓vp,vz,Nat.reduceLT,Nat.reduceEqDiff,Nat.reduceLeDiff,Nat.reduceAdd,Nat.reduceSub,Nat.reduceMul,Int.reduceBEq,Int.reduceBNe,Int.reduceLT,Int.reduceLE,Int.reduceEq,reduceIte,reduceCtorEq,da,int,boolA,q12],hs',rfl⟩
  | true =>
   rw [hbx] at hs'
   simp only [if_true] at hs'
   have k52:=fun H Q => @ku52 acc x.2 (by omega) (by omega) A hA H Q
   simp only [vx,vxm,↓vp,vz,Nat.reduceLT,Nat.reduceEqDiff,Nat.reduceLeDiff,Nat.reduceAdd,Nat.reduceSub,Nat.reduceMul,Int.reduceBEq,Int.reduceBNe,Int.reduceLT,Int.reduceLE,Int.reduceEq,reduceIte,reduceCtorEq,da,int,boolA,q01,q05,q12,hGd,cd52,kG,hbx,k52]
   exact ⟨_,hlt,seen ++ [b],unionM acc x.2,encR (unionM acc x.2),_,rfl,rfl,by simp only [↓vp,vz,Nat.reduceLT,Nat.reduceEqDiff,Nat.reduceLeDiff,Nat.reduceAdd,Nat.reduceSub,Nat.reduceMul,Int.reduceBEq,Int.reduceBNe,Int.reduceLT,Int.reduceLE,Int.reduceEq,reduceIte,reduceCtorEq,da,int,boolA,q00],by simp only [↓vp,vz,Nat.reduceLT,Nat.reduceEqDiff,Nat.reduceLeDiff,Nat.reduceAdd,Nat.reduceSub,Nat.reduceMul,Int.reduceBEq,Int.reduceBNe,Int.reduceLT,Int.reduceLE,Int.reduceEq,reduceIte,reduceCtorEq,da,int,boolA,q01],by simp only [↓vp,vz,Nat.reduceLT,Nat.reduceEqDiff,Nat.reduceLeDiff,Nat.reduceAdd,Nat.reduceSub,Nat.reduceMul,Int.reduceBEq,Int.reduceBNe,Int.reduceLT,Int.reduceLE,Int.reduceEq,reduceIte,reduceCtorEq,da,int,boolA],.inl rfl,by simp only [↓vp,vz,Nat.reduceLT,Nat.reduceEqDiff,Nat.reduceLeDiff,Nat.reduceAdd,Nat.reduceSub,Nat.reduceMul,Int.reduceBEq,Int.reduceBNe,Int.reduceLT,Int.reduceLE,Int.reduceEq,reduceIte,reduceCtorEq,da,int,boolA,q12],hs',rfl⟩
 ·have hf:=hs.fin hp.hd.len hall
  subst hf
  simp only [vx,vxm,↓vp,vz,Nat.reduceLT,Nat.reduceEqDiff,Nat.reduceLeDiff,Nat.reduceAdd,Nat.reduceSub,Nat.reduceMul,Int.reduceBEq,Int.reduceBNe,Int.reduceLT,Int.reduceLE,Int.reduceEq,reduceIte,reduceCtorEq,da,int,boolA,q12]
  unfold c120R1
  simp only [vx,vxm,↓vp,vz,Nat.reduceLT,Nat.reduceEqDiff,Nat.reduceLeDiff,Nat.reduceAdd,Nat.reduceSub,Nat.reduceMul,Int.reduceBEq,Int.reduceBNe,Int.reduceLT,Int.reduceLE,Int.reduceEq,reduceIte,reduceCtorEq,da,int,boolA,q05]
  refine ⟨_,res_tmp (by decide),?_,?_⟩
  ·simp only [↓vp,vz,Nat.reduceLT,Nat.reduceEqDiff,Nat.reduceLeDiff,Nat.reduceAdd,Nat.reduceSub,Nat.reduceMul,Int.reduceBEq,Int.reduceBNe,Int.reduceLT,Int.reduceLE,Int.reduceEq,reduceIte,reduceCtorEq,da,int,boolA]
   rcases hA with rfl | ⟨rfl,h0⟩
   ·exact .inl rfl
   ·exact .inr ⟨rfl,by rw [h0]; rfl⟩
  ·rw [hx_nil H]
   refine ⟨by simp [hx_next],fun j B hj => ?_⟩
   rcases Nat.lt_or_ge j H.next with hlt | hge
   ·right
    rw [hx_get_old _ _ _ hlt] at hj
    rw [hx_get_old _ _ _ hlt,hj]
   ·left
    have:=Heap.get_lt hj
    rw [hx_next] at this
    simp at this
    obtain rfl : j = H.next:=by omega
    rw [hx_get0] at hj
    cases hj
    rfl
end Go.VI
namespace Go.VI
attribute [local congr] AW_congr OW_congr DW_congr NW_congr VW_congr GW_congr PW_congr KW_congr ite_congr' GV_congr CV_congr dx_congr dOW_congr dop_congr CP_congr AQ_congr AZ_congr callD_congr NQ_congr rngW_congr nxtW_congr entW_congr delW_congr
def decR : List (List AV) → Option (List RunM)
 | [] => some []
 | [.sc (.int .i64 a),.sc (.int .i64 b)] :: r => (decR r).map fun l => (a,b) :: l
 | _ => none
theorem decR_some : ∀ {r : List (List AV)} {l : List RunM},decR r = some l → r = l.map runC
 | [],l,h => by cases h; rfl
 | c :: r,l,h => by
  unfold decR at h
  split at h
  ·cases ‹_ = ([] : List (List AV))›
  ·rename_i heq
   injection heq with h1 h2
   subst h1 h2
   rw [Option.map_eq_some_iff] at h
   obtain ⟨l',h',rfl⟩:=h
   rw [decR_some h']
   rfl
  ·cases h
theorem decR_enc : ∀ l : List RunM,decR (l.map runC) = some l
 | [] => rfl
 | x :: l => by
  show (decR (l.map runC)).map _ = _
  rw [decR_enc l]
  rfl
def decH : List (AV × AV) → Option HeldM
 | [] => some []
 | (.sc (.int .i64 t),.lst r) :: es => (decR r).bind fun l => (decH es).map fun hd => (t,l) :: hd
 | _ => none
theorem decH_some : ∀ {es : List (AV × AV)} {hd : HeldM},decH es = some hd → es = hd.map entC
 | [],l,h => by cases h; rfl
 | c :: r,l,h => by
  unfold decH at h
  split at h
  ·cases ‹_ = ([] : List (AV × AV))›
  ·rename_i heq
   injection heq with h1 h2
   subst h1 h2
   rw [Option.bind_eq_some_iff] at h
   obtain ⟨l1,h1,h⟩:=h
   rw [Option.map_eq_some_iff] at h
   obtain ⟨l',h',rfl⟩:=h
   rw [decH_some h',decR_some h1]
   rfl
  ·cases h
theorem decH_enc : ∀ hd : HeldM,decH (hd.map entC) = some hd
 | [] => rfl
 | x :: l => by
  show ((decR (x.2.map runC)).bind fun q => (decH (l.map entC)).map fun hd => (x.1,q) :: hd) = _
  rw [decH_enc l,decR_enc]
  rfl
noncomputable def holdsV (T : FT) (G : AV) (H : Heap) (t : Int) : Bool:=match callL T G [int t] H with
 | some (.sc (.bool b),_) => b
 | _ => false
theorem holdsV_eq {T : FT} {B : Nat} {G : AV} {H : Heap} {hb : Int → Bool} (h : TestG T B G H hb) : holdsV T G H = hb:=by
 funext t
 unfold holdsV
 rw [h H (fun _ _ => rfl) t]
 rfl
open Classical in
noncomputable def unionP (args : List AV) (H : Heap) : Option (AV × Heap) :=
 match args with
 | [.ptr pid 0 0,G] => match H.get pid with
  | some (.box false [.sc (.int .i64 a),.sc (.int .i64 b),.lst fr,.mp mid]) => match H.get mid with
   | some (.mpb (some .i64) es bs ck) => (decR fr).bind fun f => (decH es).bind fun hd =>
    if HeldH hd bs ck ∧ rightM f = true ∧ TestG ftU H.next G H (holdsV ftU G H) ∧ calleeD ftU G = none then some (encR (unionSel (holdsV ftU G H) hd),hx H [.dead]) else none
   | _ => none
  | _ => none
 | _ => none
theorem unionP_sl : SlF ftU 25 r120 c120 unionP:=by
 intro args H r H' h
 unfold unionP at h
 split at h
 rotate_left
 ·cases h
 rename_i pid G
 split at h
 rotate_left
 ·cases h
 rename_i a b fr mid hbox
 split at h
 rotate_left
 ·cases h
 rename_i es bs ck hmap
 simp only [Option.bind_eq_some_iff] at h
 obtain ⟨f,hf,hd,hh,h⟩:=h
 split at h
 rotate_left
 ·cases h
 rename_i hc
 obtain ⟨c1,c2,c3,c4⟩:=hc
 cases h
 obtain rfl:=decR_some hf
 obtain rfl:=decH_some hh
 exact union_dx (p:=⟨a,b,f,hd⟩) ⟨hbox,hmap,c1,c2⟩ c3 c4
theorem unionP_at {H : Heap} {pid mid : Nat} {p : PoolM} {bs : List Nat} {ck : Nat} {G : AV} {hb : Int → Bool} (hp : PoolH H pid mid p bs ck) (hG : TestG ftU H.next G H hb) (hGd : calleeD ftU G = none) : unionP [.ptr pid 0 0,G] H = some (encR (unionSel hb p.held),hx H [.dead]):=by
 unfold unionP
 simp only [hp.box,int,encR,hp.map,decR_enc,decH_enc,Option.bind_some]
 rw [if_pos ⟨hp.hd,hp.free,by rw [holdsV_eq hG]; exact hG,hGd⟩,holdsV_eq hG]
def TestE (T : FT) (B mid : Nat) (G : AV) (H : Heap) (hb : Int → Bool) : Prop:=∀ H',(∀ j,j < B → j ≠ mid → H'.get j = H.get j) → ∀ t l,callL T G [int t,encR l] H' = some (boolA (hb t),H')
abbrev EntM:=(Int × List RunM) × Nat
def keepE (hb : Int → Bool) (seen : List Nat) (zs : List EntM) : List EntM:=zs.filter fun z => !(seen.contains z.2 && hb z.1.1)
def idxK (t : Int) : List EntM → Nat
 | [] => 0
 | z :: zs => if t == z.1.1 then 0 else idxK t zs + 1
theorem idxK_eq (t : Int) : ∀ zs : List EntM,idxE (int t) (zs.map fun z => entC z.1) = idxK t zs
 | [] => rfl
 | z :: zs => by
  have ih:=idxK_eq t zs
  show (if keyEq (int t) (int z.1.1) then 0 else idxE (int t) (zs.map fun z => entC z.1) + 1) = if t == z.1.1 then 0 else idxK t zs + 1
  rw [ih]
  rfl
theorem erase_map {α β : Type} (f : α → β) : ∀ (l : List α) (j : Nat),(l.map f).eraseIdx j = (l.eraseIdx j).map f
 | [],_ => rfl
 | _ :: _,0 => rfl
 | a :: l,j + 1 => by
  show f a :: (l.map f).eraseIdx j = f a :: (l.eraseIdx j).map f
  rw [erase_map f l j]
theorem idxK_erase (t : Int) : ∀ zs : List EntM,(zs.map (·.1.1)).Nodup → zs.eraseIdx (idxK t zs) = zs.filter fun z => !(z.1.1 == t)
 | [],_ => rfl
 | z :: zs,h => by
  rw [List.map_cons,List.nodup_cons] at h
  have ih:=idxK_erase t zs h.2
  unfold idxK
  cases e : (t == z.1.1) with
  | true =>
   have e' : t = z.1.1:=by simpa using e
   have hall : (zs.filter fun y => !(y.1.1 == t)) = zs:=List.filter_eq_self.2 fun y hy => by
    have : y.1.1 ≠ t:=fun q => h.1 (by rw [← e',← q]; exact List.mem_map.2 ⟨y,hy,rfl⟩)
    simpa using this
   have hz : (!(z.1.1 == t)) = false:=by rw [e']; simp
   rw [List.filter_cons_of_neg (by rw [hz]; simp),hall]
   rfl
  | false =>
   have hz : (!(z.1.1 == t)) = true:=by
    have : t ≠ z.1.1:=by simpa using e
    simpa using fun q => this (Eq.symm q)
   rw [List.filter_cons_of_pos (p:=fun z : EntM => !(z.1.1 == t)) hz,← ih]
   rfl
theorem erase_ent (zs : List EntM) (h : (zs.map (·.1.1)).Nodup) (t : Int) : (zs.map fun z => entC z.1).eraseIdx (idxE (int t) (zs.map fun z => entC z.1)) = (zs.filter fun z => !(z.1.1 == t)).map (fun z => entC z.1) ∧
  (zs.map (·.2)).eraseIdx (idxE (int t) (zs.map fun z => entC z.1)) = (zs.filter fun z => !(z.1.1 == t)).map (·.2):=by
 rw [idxK_eq,erase_map,erase_map,idxK_erase t zs h]
 exact ⟨rfl,rfl⟩
structure EntH (zs : List EntM) (ck : Nat) : Prop where
 keys : (zs.map (·.1.1)).Nodup
 nd : (zs.map (·.2)).Nodup
 lt : ∀ b ∈ zs.map (·.2),b < ck
theorem nodup_inj {α β : Type} (f : α → β) : ∀ {l : List α},(l.map f).Nodup → ∀ x ∈ l,∀ y ∈ l,f x = f y → x = y
 | [],_,x,hx,_,_,_ => by cases hx
 | a :: l,h,x,hx,y,hy,e => by
  rw [List.map_cons,List.nodup_cons] at h
  rcases List.mem_cons.1 hx with h1 | h1 <;> rcases List.mem_cons.1 hy with h2 | h2
  ·rw [h1,h2]
  ·exact absurd (List.mem_map.2 ⟨y,h2,by rw [← e,h1]⟩) h.1
  ·exact absurd (List.mem_map.2 ⟨x,h1,by rw [e,h2]⟩) h.1
  ·exact nodup_inj f h.2 x h1 y h2 e
theorem nodup_filter {α β : Type} (f : α → β) (p : α → Bool) {l : List α} (h : (l.map f).Nodup) : ((l.filter p).map f).Nodup:=List.Nodup.sublist (List.filter_sublist.map f) h
theorem keep_nil (hb : Int → Bool) (zs : List EntM) : keepE hb [] zs = zs:=List.filter_eq_self.2 fun z _ => by simp
theorem keep_true {hb : Int → Bool} {seen : List Nat} {zs : List EntM} {ck : Nat} (hz : EntH zs ck) {z : EntM} (h1 : z ∈ zs) (h2 : hb z.1.1 = true) : (keepE hb seen zs).filter (fun y => !(y.1.1 == z.1.1)) = keepE hb (seen ++ [z.2]) zs:=by
 unfold keepE
 rw [List.filter_filter]
 refine List.filter_congr fun y hy => ?_
 have hiff : (y.1.1 == z.1.1) = (y.2 == z.2):=beq_iff' (by
  simp only [beq_iff_eq]
  exact ⟨fun e => by rw [nodup_inj (fun z : EntM => z.1.1) hz.keys y hy z h1 e],fun e => by rw [nodup_inj (fun z : EntM => z.2) hz.nd y hy z h1 e]⟩)
 rw [hiff]
 simp only [List.contains_eq_mem,List.mem_append,List.mem_singleton]
 cases e : (y.2 == z.2) with
 | true =>
  have e2 : y = z:=nodup_inj (fun z : EntM => z.2) hz.nd y hy z h1 (by simpa using e)
  subst e2
  simp [h2]
 | false =>
  have : ¬ y.2 = z.2:=by simpa using e
  simp [this]
theorem keep_false {hb : Int → Bool} {seen : List Nat} {zs : List EntM} {ck : Nat} (hz : EntH zs ck) {z : EntM} (h1 : z ∈ zs) (h2 : hb z.1.1 = false) : keepE hb seen zs = keepE hb (seen ++ [z.2]) zs:=by
 unfold keepE
 refine List.filter_congr fun y hy => ?_
 simp only [List.contains_eq_mem,List.mem_append,List.mem_singleton]
 by_cases e : y.2 = z.2
 ·have e2 : y = z:=nodup_inj (fun z : EntM => z.2) hz.nd y hy z h1 e
  subst e2
  simp [h2]
 ·simp [e]
theorem keep_fin {hb : Int → Bool} {seen : List Nat} {zs : List EntM} (h : ∀ b ∈ (keepE hb seen zs).map (·.2),b ∈ seen) : keepE hb seen zs = zs.filter fun z => !hb z.1.1:=by
 unfold keepE at h ⊢
 refine List.filter_congr fun y hy => ?_
 cases e : hb y.1.1 with
 | false => simp
 | true =>
  cases e2 : seen.contains y.2 with
  | true => rfl
  | false =>
   exfalso
   have h3 : y.2 ∉ seen:=by simpa using e2
   exact h3 (h _ (List.mem_map.2 ⟨y,List.mem_filter.2 ⟨hy,by rw [e,e2]; rfl⟩,rfl⟩))
def mapB (zs : List EntM) (ck : Nat) : Blk:=.mpb (some .i64) (zs.map fun z => entC z.1) (zs.map (·.2)) ck
theorem heap_set_same {H : Heap} {id : Nat} {b : Blk} (h : H.get id = some b) : H.set id b = H:=by
 obtain ⟨bs⟩:=H
 show (⟨bs.set id b⟩ : Heap) = ⟨bs⟩
 congr 1
 obtain ⟨hlt,he⟩:=List.getElem?_eq_some_iff.1 h
 rw [← he]
 exact List.set_getElem_self hlt
def ID (H : Heap) (mid : Nat) (zs : List EntM) (ck : Nat) (G : AV) (hb : Int → Bool) (n : Nat) (e : Env) (H' : Heap) : Prop :=
 ∃ seen f,e = mkE 19 f ∧ H' = hx (H.set mid (mapB (keepE hb seen zs) ck)) [.itb mid ck seen ck] ∧ f 0 = .mp mid ∧ f 1 = G ∧ f 7 = .ptr H.next 0 0 ∧ n = leftU (zs.map (·.2)) seen
theorem del_dx {H : Heap} {mid : Nat} {zs : List EntM} {ck : Nat} {G : AV} {hb : Int → Bool} (hm : H.get mid = some (mapB zs ck)) (hz : EntH zs ck) (hG : TestE ftU H.next mid G H hb) (hGd : calleeD ftU G = none) :
  dCall ftU (fun _ => none) 19 r123 c123 [.mp mid,G] H fun r2 H2 => (r2 = .tup [] ∨ (r2 = .sc (.slice none 0 0) ∧ AV.tup [] = .lst [])) ∧ Forgets H2 (hx (H.set mid (mapB (zs.filter fun z => !hb z.1.1) ck)) [.dead]):=by
 have lid:=Heap.get_lt hm
 unfold dCall
 rw [enterE_mkE _ _ (by simp),← hx_nil H]
 unfold c123 r123
 have q1:=fun L => get_old hm L
 unfold mapB at q1
 have rg:=fun (L : List Blk) nid K => @rngW_mp nid (hx H L) K mid ck _ _ _ (q1 L)
 simp only [vx,vxm,↓vp,vz,Nat.reduceLT,Nat.reduceEqDiff,Nat.reduceLeDiff,Nat.reduceAdd,Nat.reduceSub,Nat.reduceMul,Int.reduceBEq,Int.reduceBNe,Int.reduceLT,Int.reduceLE,Int.reduceEq,reduceIte,reduceCtorEq,da,int,boolA,rg]
 refine ⟨ID H mid zs ck G hb,⟨_,[],_,rfl,?_,?_,?_,?_,rfl⟩,?_⟩
 ·rw [keep_nil,heap_set_same hm]
 any_goals (simp only [↓vp,vz,Nat.reduceLT,Nat.reduceEqDiff,Nat.reduceLeDiff,Nat.reduceAdd,Nat.reduceSub,Nat.reduceMul,Int.reduceBEq,Int.reduceBNe,Int.reduceLT,Int.reduceLE,Int.reduceEq,reduceIte,reduceCtorEq,da,int,boolA]; done)
 rintro n e H' ⟨seen,f,rfl,rfl,q00,q01,q07,rfl⟩
 generalize hcur : keepE hb seen zs = cur
 have hsub : ∀ y ∈ cur,y ∈ zs:=fun y hy => by
  rw [← hcur] at hy
  exact (List.mem_filter.1 hy).1
 have hKn : (H.set mid (mapB cur ck)).next = H.next:=Heap.next_set _ _ _
 have hKm : (H.set mid (mapB cur ck)).get mid = some (mapB cur ck):=Heap.get_set_self _ lid
 have hnd : (cur.map (·.2)).Nodup:=by rw [← hcur]; exact nodup_filter _ _ hz.nd
 have hkd : (cur.map (·.1.1)).Nodup:=by rw [← hcur]; exact nodup_filter _ _ hz.keys
 have kG : ∀ t l L Q,KW ftU G [.sc (.int .i64 t),encR l] (hx (H.set mid (mapB cur ck)) L) Q ↔ Q (.sc (.bool (hb t))) (hx (H.set mid (mapB cur ck)) L):=fun t l L Q => KW_of (hG _ (fun j hj hne => by rw [hx_get_old _ _ _ (by rw [hKn]; exact hj),Heap.get_set_ne _ hne]) t l)
 have iget : ∀ b L,(hx (H.set mid (mapB cur ck)) (b :: L)).get H.next = some b:=fun b L => by
  have:=hx_get0 (H.set mid (mapB cur ck)) (b :: L)
  rw [hKn] at this
  exact this
 have iset : ∀ b b',(hx (H.set mid (mapB cur ck)) [b]).set H.next b' = hx (H.set mid (mapB cur ck)) [b']:=fun b b' => by
  have:=hx_set0 (H.set mid (mapB cur ck)) [b] b'
  rw [hKn] at this
  exact this
 have mget:=fun L => get_old hKm L
 have mset : ∀ b L,(hx (H.set mid (mapB cur ck)) L).set mid b = hx (H.set mid b) L:=fun b L => by
  rw [hx_set_old _ _ _ _ (by rw [hKn]; exact lid)]
  congr 1
  simp [Heap.set]
 unfold c123L0
 simp only [vx,vxm,↓vp,vz,Nat.reduceLT,Nat.reduceEqDiff,Nat.reduceLeDiff,Nat.reduceAdd,Nat.reduceSub,Nat.reduceMul,Int.reduceBEq,Int.reduceBNe,Int.reduceLT,Int.reduceLE,Int.reduceEq,reduceIte,reduceCtorEq,da,int,boolA,q07]
 refine ⟨H.next,mid,ck,seen,ck,_,_,_,ck,rfl,iget _ _,mget _,fun b hb' => ?_,Nat.le_refl _,fun i k v b h1 h2 h3 => ?_,fun hall => ?_⟩
 ·rw [List.mem_map] at hb'
  obtain ⟨y,hy,rfl⟩:=hb'
  exact hz.lt _ (List.mem_map.2 ⟨y,hsub y hy,rfl⟩)
 ·rw [List.getElem?_map,Option.map_eq_some_iff] at h1 h2
  obtain ⟨z,hz1,hze⟩:=h1
  obtain ⟨z',hz2,rfl⟩:=h2
  rw [hz1] at hz2
  cases hz2
  cases hze
  have hzc:=List.mem_of_getElem? hz1
  have hzm:=hsub z hzc
  have hlt:=leftU_step (List.mem_map.2 ⟨z,hzm,rfl⟩ : z.2 ∈ zs.map (·.2)) h3
  rw [iset]
  simp only [vx,vxm,↓vp,vz,Nat.reduceLT,Nat.reduceEqDiff,Nat.reduceLeDiff,Nat.reduceAdd,Nat.reduceSub,Nat.reduceMul,Int.reduceBEq,Int.reduceBNe,Int.reduceLT,Int.reduceLE,Int.reduceEq,reduceIte,reduceCtorEq,da,int,boolA,q07]
  refine ⟨H.next,mid,ck,seen,z.2,_,_,_,ck,rfl,iget _ _,mget _,hnd,i,_,_,by rw [List.getElem?_map,hz1]; rfl,by rw [List.getElem?_map,hz1]; rfl,?_⟩
  simp only [entC]
  cases hbx : hb z.1.1 with
  | false =>
   simp only [vx,vxm,↓vp,vz,Nat.reduceLT,Nat.reduceEqDiff,Nat.reduceLeDiff,Nat.reduceAdd,Nat.reduceSub,Nat.reduceMul,Int.reduceBEq,Int.reduceBNe,Int.reduceLT,Int.reduceLE,Int.reduceEq,reduceIte,reduceCtorEq,da,int,boolA,q01,q07,hGd,kG,hbx]
   refine ⟨_,hlt,seen ++ [z.2],_,rfl,?_,?_,?_,?_,rfl⟩
   ·rw [← keep_false hz hzm hbx,hcur]
   all_goals simp only [↓vp,vz,Nat.reduceLT,Nat.reduceEqDiff,Nat.reduceLeDiff,Nat.reduceAdd,Nat.reduceSub,Nat.reduceMul,Int.reduceBEq,Int.reduceBNe,Int.reduceLT,Int.reduceLE,Int.reduceEq,reduceIte,reduceCtorEq,da,int,boolA,q00,q01,q07]
  | true =>
   simp only [vx,vxm,↓vp,vz,Nat.reduceLT,Nat.reduceEqDiff,Nat.reduceLeDiff,Nat.reduceAdd,Nat.reduceSub,Nat.reduceMul,Int.reduceBEq,Int.reduceBNe,Int.reduceLT,Int.reduceLE,Int.reduceEq,reduceIte,reduceCtorEq,da,int,boolA,q00,q01,q07,hGd,kG,hbx]
   refine ⟨mid,_,_,ck,rfl,mget _,rfl,?_⟩
   rw [mset]
   obtain ⟨e1,e2⟩:=erase_ent cur hkd z.1.1
   simp only [int] at e1 e2
   rw [e1,e2]
   simp only [vx,vxm,↓vp,vz,Nat.reduceLT,Nat.reduceEqDiff,Nat.reduceLeDiff,Nat.reduceAdd,Nat.reduceSub,Nat.reduceMul,Int.reduceBEq,Int.reduceBNe,Int.reduceLT,Int.reduceLE,Int.reduceEq,reduceIte,reduceCtorEq,da,int,boolA]
   refine ⟨_,hlt,seen ++ [z.2],_,rfl,?_,?_,?_,?_,rfl⟩
   ·rw [← keep_true hz hzm hbx,hcur]
    rfl
   all_goals simp only [↓vp,vz,Nat.reduceLT,Nat.reduceEqDiff,Nat.reduceLeDiff,Nat.reduceAdd,Nat.reduceSub,Nat.reduceMul,Int.reduceBEq,Int.reduceBNe,Int.reduceLT,Int.reduceLE,Int.reduceEq,reduceIte,reduceCtorEq,da,int,boolA,q00,q01,q07]
 ·have hf:=keep_fin (hb:=hb) (seen:=seen) (zs:=zs) (by rw [hcur]; exact hall)
  rw [hcur] at hf
  subst hf
  simp only [vx,vxm,↓vp,vz,Nat.reduceLT,Nat.reduceEqDiff,Nat.reduceLeDiff,Nat.reduceAdd,Nat.reduceSub,Nat.reduceMul,Int.reduceBEq,Int.reduceBNe,Int.reduceLT,Int.reduceLE,Int.reduceEq,reduceIte,reduceCtorEq,da,int,boolA,q07]
  refine ⟨_,rfl,.inl rfl,?_⟩
  refine ⟨by simp [hx_next],fun j B hj => ?_⟩
  rcases Nat.lt_or_ge j H.next with hlt | hge
  ·right
   rw [hx_nil H] at hj
   rw [hx_get_old _ _ _ (by rw [hKn]; exact hlt)] at hj ⊢
   exact hj
  ·left
   have:=Heap.get_lt hj
   rw [hx_next,hx_nil] at this
   rw [hKn] at this
   simp at this
   obtain rfl : j = H.next:=by omega
   rw [hx_nil,iget] at hj
   cases hj
   rfl
end Go.VI
namespace Go.VI
attribute [local congr] AW_congr OW_congr DW_congr NW_congr VW_congr GW_congr PW_congr KW_congr ite_congr' GV_congr CV_congr dx_congr dOW_congr dop_congr CP_congr AQ_congr AZ_congr callD_congr NQ_congr rngW_congr nxtW_congr entW_congr delW_congr
theorem s121 (t : Int) (H : Heap) : callL ftK (.fn (.func 121) [] []) [int t] H = some (boolA true,H):=by
 refine call_p (as':=[int t]) rfl rfl (by simp) ?_
 unfold c121 r121
 simp only [↓vp,vz,Nat.reduceLT,Nat.reduceEqDiff,Nat.reduceLeDiff,Nat.reduceAdd,Nat.reduceSub,Nat.reduceMul,Int.reduceBEq,Int.reduceBNe,Int.reduceLT,Int.reduceLE,Int.reduceEq,reduceIte,reduceCtorEq,da,int,boolA,rt]
def oldB (x o t : Int) : Bool:=decide (t ≤ IntKind.i64.wrap (x - 2)) && decide (t ≤ o)
theorem s122 (t x o : Int) (H : Heap) : callL ftK (.fn (.func 122) [] []) [int t,.pim [[int x]] 0 0,.pim [[int o]] 0 0] H = some (boolA (oldB x o t),H):=by
 refine call_p (as':=[int t,.pim [[int x]] 0 0,.pim [[int o]] 0 0]) rfl rfl (by simp) ?_
 unfold c122 r122 oldB
 have cp : ∀ H y,cellsAt H (.pim [[.sc (.int .i64 y)]] 0 0) 1 = some [.sc (.int .i64 y)]:=fun _ _ => rfl
 by_cases e : t ≤ IntKind.i64.wrap (x - 2)
 ·rw [decide_eq_true e,Bool.true_and]
  simp only [↓vp,vz,Nat.reduceLT,Nat.reduceEqDiff,Nat.reduceLeDiff,Nat.reduceAdd,Nat.reduceSub,Nat.reduceMul,Int.reduceBEq,Int.reduceBNe,Int.reduceLT,Int.reduceLE,Int.reduceEq,reduceIte,reduceCtorEq,da,int,boolA,rt,cp,e]
 ·rw [decide_eq_false e,Bool.false_and]
  simp only [↓vp,vz,Nat.reduceLT,Nat.reduceEqDiff,Nat.reduceLeDiff,Nat.reduceAdd,Nat.reduceSub,Nat.reduceMul,Int.reduceBEq,Int.reduceBNe,Int.reduceLT,Int.reduceLE,Int.reduceEq,reduceIte,reduceCtorEq,da,int,boolA,rt,cp,e]
theorem s133 (t x : Int) (H : Heap) : callL ftK (.fn (.func 133) [] []) [int t,.pim [[int x]] 0 0] H = some (boolA (t != x),H):=by
 refine call_p (as':=[int t,.pim [[int x]] 0 0]) rfl rfl (by simp) ?_
 unfold c133 r133
 have cp : ∀ H y,cellsAt H (.pim [[.sc (.int .i64 y)]] 0 0) 1 = some [.sc (.int .i64 y)]:=fun _ _ => rfl
 simp only [↓vp,vz,Nat.reduceLT,Nat.reduceEqDiff,Nat.reduceLeDiff,Nat.reduceAdd,Nat.reduceSub,Nat.reduceMul,Int.reduceBEq,Int.reduceBNe,Int.reduceLT,Int.reduceLE,Int.reduceEq,reduceIte,reduceCtorEq,da,int,boolA,rt,cp]
def oldF (x o : Int) : AV:=.fn (.func 122) [] [.pim [[int x]] 0 0,.pim [[int o]] 0 0]
theorem s124 (t x o : Int) (l : List RunM) (H : Heap) : callL ftK (.fn (.func 124) [] []) [int t,encR l,.pim [[oldF x o]] 0 0] H = some (boolA (oldB x o t),H):=by
 refine call_p (as':=[int t,encR l,.pim [[oldF x o]] 0 0]) rfl rfl (by simp) ?_
 unfold c124 r124
 have cp : ∀ H,cellsAt H (.pim [[oldF x o]] 0 0) 1 = some [oldF x o]:=fun _ => rfl
 have hc : ∀ H,callL ftK (oldF x o) [int t] H = some (boolA (oldB x o t),H):=fun H => by
  have:=s122 t x o H
  unfold oldF
  rw [callL_fn] at this ⊢
  exact this
 have kk : ∀ K L Q,KW ftK (oldF x o) [.sc (.int .i64 t)] (hx K L) Q ↔ Q (.sc (.bool (oldB x o t))) (hx K L):=fun K L Q => KW_of (hc _)
 simp only [↓vp,vz,Nat.reduceLT,Nat.reduceEqDiff,Nat.reduceLeDiff,Nat.reduceAdd,Nat.reduceSub,Nat.reduceMul,Int.reduceBEq,Int.reduceBNe,Int.reduceLT,Int.reduceLE,Int.reduceEq,reduceIte,reduceCtorEq,da,int,boolA,rt,cp,kk]
theorem callU_prim {T : FT} {k : Nat} {p : List AV → Heap → Option (AV × Heap)} (hk : T k = some (.prim p)) {first caps args : List AV} {H : Heap} {r : AV × Heap} (h : p (first ++ args ++ caps) H = some r) (hn : H.next ≤ r.2.next) : callL T (.fn (.func k) first caps) args H = some r:=by
 rw [callL_fn]
 unfold callF
 simp only [hk,h,Option.bind_some,if_pos hn]
theorem roP_val {p : List AV → Option AV} {args cs : List AV} {H H1 : Heap} {v : Value} (h1 : frzCells H args = some (cs,H1)) (h2 : p cs = some (.sc v)) : roP p args H = some (.sc v,H):=by
 unfold roP
 rw [h1,Option.bind_some,h2]
 rfl
theorem frz_bi {H : Heap} {b : Nat} {fz : Bool} {x : Int} (hg : H.get b = some (.box fz [int x])) (n : Nat) : ∃ H1,frz (n + 4) H (.ptr b 0 0) = some (.pim [[int x]] 0 0,H1) ∧ ∀ j,j ≠ b → H1.get j = H.get j:=by
 cases fz with
 | true =>
  refine ⟨H,?_,fun _ _ => rfl⟩
  simp only [frz,hg,if_true]
 | false =>
  refine ⟨H.set b (.box true [int x]),?_,fun j hj => Heap.get_set_ne _ hj⟩
  simp only [frz,hg,if_true]
  show ((frz.frzL (n + 3) H [int x]).bind fun q => _) = _
  rw [show frz.frzL (n + 3) H [int x] = some ([int x],H) from rfl,Option.bind_some]
  simp only [hg]
theorem frz_test1 {H : Heap} {b : Nat} {fz : Bool} {x : Int} (hg : H.get b = some (.box fz [int x])) (t : Int) : ∃ H1,frzCells H [int t,.ptr b 0 0] = some ([int t,.pim [[int x]] 0 0],H1):=by
 obtain ⟨H1,h1,_⟩:=frz_bi hg 18
 refine ⟨H1,?_⟩
 simp only [int] at h1 ⊢
 simp only [frzCells_eq,frzL_cons,frzL_nil,frz_int,h1,Option.bind_some]
theorem frz_test2 {H : Heap} {b b' : Nat} {fz fz' : Bool} {x o : Int} (hg : H.get b = some (.box fz [int x])) (hg' : H.get b' = some (.box fz' [int o])) (hne : b' ≠ b) (t : Int) : ∃ H1,frzCells H [int t,.ptr b 0 0,.ptr b' 0 0] = some ([int t,.pim [[int x]] 0 0,.pim [[int o]] 0 0],H1):=by
 obtain ⟨H1,h1,h2⟩:=frz_bi hg 18
 obtain ⟨H2,h3,_⟩:=frz_bi (H:=H1) (by rw [h2 _ hne]; exact hg') 17
 refine ⟨H2,?_⟩
 simp only [int] at h1 h3 ⊢
 simp only [frzCells_eq,frzL_cons,frzL_nil,frz_int,h1,h3,Option.bind_some]
def G0 : AV:=.fn (.func 121) [] []
theorem test0 (B : Nat) (H : Heap) : TestG ftU B G0 H fun _ => true:=fun H' _ t =>
 callU_prim (p:=roP (goP ftK 121)) rfl (roP_val (H1:=H') rfl (goP_val rfl (s121 t Heap.empty))) (Nat.le_refl _)
theorem test3 {B b : Nat} {H : Heap} {fz : Bool} {x : Int} (hg : H.get b = some (.box fz [int x])) (hb : b < B) : TestG ftU B (.fn (.func 133) [] [.ptr b 0 0]) H fun t => t != x:=fun H' h t => by
 obtain ⟨H1,h1⟩:=frz_test1 (H:=H') (by rw [h b hb]; exact hg) t
 exact callU_prim (p:=roP (goP ftK 133)) rfl (roP_val h1 (goP_val rfl (s133 t x Heap.empty))) (Nat.le_refl _)
theorem test2 {B b b' : Nat} {H : Heap} {fz fz' : Bool} {x o : Int} (hg : H.get b = some (.box fz [int x])) (hg' : H.get b' = some (.box fz' [int o])) (hne : b' ≠ b) (hb : b < B) (hb' : b' < B) : TestG ftU B (.fn (.func 122) [] [.ptr b 0 0,.ptr b' 0 0]) H (oldB x o):=fun H' h t => by
 obtain ⟨H1,h1⟩:=frz_test2 (H:=H') (by rw [h b hb]; exact hg) (by rw [h b' hb']; exact hg') hne t
 exact callU_prim (p:=roP (goP ftK 122)) rfl (roP_val h1 (goP_val rfl (s122 t x o Heap.empty))) (Nat.le_refl _)
theorem frz_test4 {H : Heap} {b b' c : Nat} {x o : Int} (hg : H.get b = some (.box false [int x])) (hg' : H.get b' = some (.box false [int o])) (hc : H.get c = some (.box false [.fn (.func 122) [] [.ptr b 0 0,.ptr b' 0 0]])) (h1 : b' ≠ b) (h2 : c ≠ b) (h3 : c ≠ b') (t : Int) (l : List RunM) :
  ∃ H1,frzCells H [int t,encR l,.ptr c 0 0] = some ([int t,encR l,.pim [[oldF x o]] 0 0],H1):=by
 obtain ⟨H1,e1,q1⟩:=frz_bi hg 13
 obtain ⟨H2,e2,q2⟩:=frz_bi (H:=H1) (by rw [q1 _ h1]; exact hg') 12
 have fc:=fun n H => frz_ptr n H c 0 0
 have hc2 : H2.get c = some (.box false [.fn (.func 122) [] [.ptr b 0 0,.ptr b' 0 0]]):=by rw [q2 _ h3,q1 _ h2]; exact hc
 refine ⟨H2.set c (.box true [oldF x o]),?_⟩
 unfold oldF
 simp only [int] at e1 e2 ⊢
 have er : ∀ H,frz 22 H (encR l) = some (encR l,H):=fun _ => rfl
 simp only [frzCells_eq,frzL_cons,frzL_nil,frz_int,er,fc,hc,frz_fn,e1,e2,hc2,Option.bind_some,if_true]
theorem test4 {B b b' c mid : Nat} {H : Heap} {x o : Int} (hg : H.get b = some (.box false [int x])) (hg' : H.get b' = some (.box false [int o])) (hc : H.get c = some (.box false [.fn (.func 122) [] [.ptr b 0 0,.ptr b' 0 0]])) (h1 : b' ≠ b) (h2 : c ≠ b) (h3 : c ≠ b')
  (l1 : b < B) (l2 : b' < B) (l3 : c < B) (m1 : b ≠ mid) (m2 : b' ≠ mid) (m3 : c ≠ mid) : TestE ftU B mid (.fn (.func 124) [] [.ptr c 0 0]) H (oldB x o):=fun H' h t l => by
 obtain ⟨H1,e1⟩:=frz_test4 (H:=H') (by rw [h b l1 m1]; exact hg) (by rw [h b' l2 m2]; exact hg') (by rw [h c l3 m3]; exact hc) h1 h2 h3 t l
 exact callU_prim (p:=roP (goP ftK 124)) rfl (roP_val e1 (goP_val rfl (s124 t x o l Heap.empty))) (Nat.le_refl _)
noncomputable def holdsE (T : FT) (G : AV) (H : Heap) (t : Int) : Bool:=match callL T G [int t,encR []] H with
 | some (.sc (.bool b),_) => b
 | _ => false
theorem holdsE_eq {T : FT} {B mid : Nat} {G : AV} {H : Heap} {hb : Int → Bool} (h : TestE T B mid G H hb) : holdsE T G H = hb:=by
 funext t
 unfold holdsE
 rw [h H (fun _ _ _ => rfl) t []]
 rfl
theorem zip_map : ∀ {hd : HeldM} {bs : List Nat},bs.length = hd.length → (hd.zip bs).map (fun z => entC z.1) = hd.map entC ∧ (hd.zip bs).map (·.2) = bs ∧ (hd.zip bs).map (·.1.1) = hd.map (·.1)
 | [],[],_ => ⟨rfl,rfl,rfl⟩
 | x :: hd,b :: bs,h => by
  obtain ⟨h1,h2,h3⟩:=zip_map (hd:=hd) (bs:=bs) (by simpa using h)
  simp only [List.zip_cons_cons,List.map_cons,h1,h2,h3,and_self]
 | [],_ :: _,h => by simp at h
 | _ :: _,[],h => by simp at h
theorem mapB_zip {hd : HeldM} {bs : List Nat} (h : bs.length = hd.length) (ck : Nat) : mapB (hd.zip bs) ck = .mpb (some .i64) (hd.map entC) bs ck:=by
 obtain ⟨h1,h2,_⟩:=zip_map h
 unfold mapB
 rw [h1,h2]
theorem entH_of {hd : HeldM} {bs : List Nat} {ck : Nat} (h : HeldH hd bs ck) : EntH (hd.zip bs) ck:=by
 obtain ⟨h1,h2,h3⟩:=zip_map h.len
 exact ⟨by rw [h3]; exact h.keys,by rw [h2]; exact h.nd,by rw [h2]; exact h.lt⟩
open Classical in
noncomputable def delP' (args : List AV) (H : Heap) : Option (AV × Heap) :=
 match args with
 | [.mp mid,G] => match H.get mid with
  | some (.mpb (some .i64) es bs ck) => (decH es).bind fun hd =>
   if HeldH hd bs ck ∧ TestE ftU H.next mid G H (holdsE ftU G H) ∧ calleeD ftU G = none then some (.tup [],hx (H.set mid (mapB ((hd.zip bs).filter fun z => !holdsE ftU G H z.1.1) ck)) [.dead]) else none
  | _ => none
 | _ => none
theorem delP'_sl : SlF ftU 19 r123 c123 delP':=by
 intro args H r H' h
 unfold delP' at h
 split at h
 rotate_left
 ·cases h
 rename_i mid G
 split at h
 rotate_left
 ·cases h
 rename_i es bs ck hmap
 simp only [Option.bind_eq_some_iff] at h
 obtain ⟨hd,hh,h⟩:=h
 split at h
 rotate_left
 ·cases h
 rename_i hc
 obtain ⟨c1,c3,c4⟩:=hc
 cases h
 obtain rfl:=decH_some hh
 exact del_dx (by rw [mapB_zip c1.len]; exact hmap) (entH_of c1) c3 c4
theorem delP'_at {H : Heap} {mid : Nat} {hd : HeldM} {bs : List Nat} {ck : Nat} {G : AV} {hb : Int → Bool} (hm : H.get mid = some (.mpb (some .i64) (hd.map entC) bs ck)) (hh : HeldH hd bs ck) (hG : TestE ftU H.next mid G H hb) (hGd : calleeD ftU G = none) :
  delP' [.mp mid,G] H = some (.tup [],hx (H.set mid (mapB ((hd.zip bs).filter fun z => !hb z.1.1) ck)) [.dead]):=by
 unfold delP'
 simp only [hm,decH_enc,Option.bind_some]
 rw [if_pos ⟨hh,by rw [holdsE_eq hG]; exact hG,hGd⟩,holdsE_eq hG]
theorem filter_zip (q : Int → Bool) : ∀ (hd : HeldM) (bs : List Nat),bs.length = hd.length → ((hd.zip bs).filter fun z => q z.1.1).map (·.1) = hd.filter fun x => q x.1
 | [],[],_ => rfl
 | x :: hd,b :: bs,h => by
  have ih:=filter_zip q hd bs (by simpa using h)
  rw [List.zip_cons_cons]
  cases e : q x.1 with
  | true => rw [List.filter_cons_of_pos (by simpa using e),List.filter_cons_of_pos (by simpa using e),List.map_cons,ih]
  | false => rw [List.filter_cons_of_neg (by simpa using e),List.filter_cons_of_neg (by simpa using e),ih]
 | [],_ :: _,h => by simp at h
 | _ :: _,[],h => by simp at h
theorem held_filter {hd : HeldM} {bs : List Nat} {ck : Nat} (h : HeldH hd bs ck) (q : Int → Bool) : HeldH (hd.filter fun x => q x.1) (((hd.zip bs).filter fun z => q z.1.1).map (·.2)) ck ∧
  mapB ((hd.zip bs).filter fun z => q z.1.1) ck = .mpb (some .i64) ((hd.filter fun x => q x.1).map entC) (((hd.zip bs).filter fun z => q z.1.1).map (·.2)) ck:=by
 have he:=entH_of h
 have hf:=filter_zip q hd bs h.len
 refine ⟨⟨?_,nodup_filter _ _ he.nd,fun b hb => ?_,?_,fun x hx => h.rg x (List.mem_filter.1 hx).1⟩,?_⟩
 ·rw [← hf]
  simp
 ·rw [List.mem_map] at hb
  obtain ⟨z,hz,rfl⟩:=hb
  exact he.lt _ (List.mem_map.2 ⟨z,(List.mem_filter.1 hz).1,rfl⟩)
 ·rw [← hf,List.map_map]
  exact nodup_filter _ _ he.keys
 ·unfold mapB
  rw [← hf,List.map_map]
  rfl
end Go.VI
namespace Go.VI
attribute [local congr] AW_congr OW_congr DW_congr NW_congr VW_congr GW_congr PW_congr KW_congr ite_congr' GV_congr CV_congr dx_congr dOW_congr dop_congr CP_congr AQ_congr AZ_congr callD_congr NQ_congr rngW_congr nxtW_congr entW_congr delW_congr
theorem cloF_val {l : List RunM} (h : l.length ≤ 1000000) : cloF 2 16 [encR l] = some (encR l):=by
 cases l with
 | nil => rfl
 | cons x l =>
  show (if ((l.map runC).length + 1) * 16 ≤ 140737488355328 ∧ allSz 2 ((x :: l).map runC) = true then some (AV.lst ((x :: l).map runC)) else none) = _
  rw [if_pos ⟨by simp at h ⊢; omega,allR _⟩]
  rfl
theorem ku111 {T : FT} (hT : T 111 = some (.pprim (cloF 2 16))) {l : List RunM} (h : l.length ≤ 1000000) {H : Heap} {Q : AV → Heap → Prop} : KW T (.fn (.func 111) [] []) [encR l] H Q ↔ Q (encR l) H :=
 KW_of (call_pprim (as':=[encR l]) (p:=cloF 2 16) hT rfl (cloF_val h))
theorem put_same : ∀ (zs : List EntM),(zs.map (·.1.1)).Nodup → ∀ z ∈ zs,putE (int z.1.1) (encR z.1.2) (zs.map fun z => entC z.1) = (zs.map fun z => entC z.1) ∧ (lookE (int z.1.1) (zs.map fun z => entC z.1)).isSome = true
 | [],_,z,hz => by cases hz
 | y :: zs,h,z,hz => by
  have hk : keyEq (int z.1.1) (int y.1.1) = (z.1.1 == y.1.1):=rfl
  rw [List.map_cons] at h
  simp only [List.map_cons]
  show (if keyEq (int z.1.1) (int y.1.1) then (int z.1.1,encR z.1.2) :: (zs.map fun z => entC z.1) else entC y.1 :: putE (int z.1.1) (encR z.1.2) (zs.map fun z => entC z.1)) = _ ∧ (if keyEq (int z.1.1) (int y.1.1) then some (encR y.1.2) else lookE (int z.1.1) (zs.map fun z => entC z.1)).isSome = true
  rw [hk]
  cases e : (z.1.1 == y.1.1) with
  | true =>
   have e2 : z = y:=nodup_inj (fun z : EntM => z.1.1) (l:=y :: zs) h z hz y (by simp) (by simpa using e)
   subst e2
   exact ⟨rfl,rfl⟩
  | false =>
   have hz2 : z ∈ zs:=by
    rcases List.mem_cons.1 hz with rfl | hz
    ·simp at e
    ·exact hz
   rw [List.nodup_cons] at h
   obtain ⟨h1,h2⟩:=put_same zs h.2 z hz2
   simp only [Bool.false_eq_true,if_false,h1,h2]
   exact ⟨trivial,trivial⟩
def IC (H : Heap) (mid : Nat) (zs : List EntM) (ck : Nat) (p : PoolM) (n : Nat) (e : Env) (H' : Heap) : Prop :=
 ∃ seen f,e = mkE 44 f ∧ H' = hx H [.box false [int p.pages,int p.limit,encR p.free,.mp (H.next + 1)],mapB zs ck,.itb (H.next + 1) ck seen ck] ∧ f 3 = .ptr H.next 0 0 ∧ f 30 = .ptr (H.next + 2) 0 0 ∧ n = leftU (zs.map (·.2)) seen
theorem copy_dx {H : Heap} {pid mid : Nat} {p : PoolM} {bs : List Nat} {ck : Nat} (hp : PoolH H pid mid p bs ck) :
  dCall ftU (fun _ => none) 44 r73 c73 [.ptr pid 0 0] H fun r2 H2 => (r2 = .ptr H.next 0 0 ∨ (r2 = .sc (.slice none 0 0) ∧ AV.ptr H.next 0 0 = .lst [])) ∧ Forgets H2 (hx H [.box false [int p.pages,int p.limit,encR p.free,.mp (H.next + 1)],.mpb (some .i64) (p.held.map entC) bs ck,.dead]):=by
 unfold dCall
 rw [enterE_mkE _ _ (by simp),← hx_nil H]
 unfold c73 r73
 have q0:=fun L => get_old hp.box L
 have q1:=fun L => get_old hp.map L
 have hfl:=right_len hp.free
 have k111:=fun H Q => @ku111 ftU rfl p.free (by omega) H Q
 have k132 : ∀ L Q,KW ftU (.fn (.func 132) [] []) [.mp mid] (hx H L) Q ↔ Q (.mp (hx H L).next) (hx H (L ++ [.mpb (some .i64) (p.held.map entC) bs ck])):=fun L Q => by
  rw [← hx_hx]
  refine KW_of (callU_prim (p:=cloMP) rfl ?_ (by rw [hx_next (hx H L)]; omega))
  simp only [cloMP,List.nil_append,List.append_nil,q1]
 have v111 : pureV ftU (.fn (.func 111) [] []) [encR p.free] = some (false,[]):=rfl
 have v132 : pureV ftU (.fn (.func 132) [] []) [.mp mid] = none:=rfl
 have v132t : pureV ftU (.tup [.fn (.func 132) [] []]) [.mp mid] = none:=rfl
 have sg : ∀ L L' : List Blk,((hx H L').get pid = (hx H L).get pid) = True:=fun L L' => eq_true (by rw [q0,q0])
 have xf : ∀ q,exFQ (none : FP).isSome q = q:=fun q => by cases q <;> rfl
 have B1 : ∀ L,(hx H (.box false [.sc (.int .i64 p.pages),.sc (.int .i64 p.limit),encR p.free,.mp (H.next + 1)] :: .mpb (some .i64) (p.held.map entC) bs ck :: L)).get (H.next + 1) = some (.mpb (some .i64) (p.held.map entC) bs ck):=fun L => hx_get H _ 1
 have rg:=fun nid K => @rngW_mp nid _ K (H.next + 1) ck _ _ _ (B1 [])
 simp only [vx,vxm,↓vp,vz,Nat.reduceLT,Nat.reduceEqDiff,Nat.reduceLeDiff,Nat.reduceAdd,Nat.reduceSub,Nat.reduceMul,Int.reduceBEq,Int.reduceBNe,Int.reduceLT,Int.reduceLE,Int.reduceEq,reduceIte,reduceCtorEq,da,int,boolA,dr,q0,k111,k132,v111,v132,v132t,mkFQ_n,compat_al,compat_la,sameAt1,sg,xf,Bool.and_eq_true,rg]
 rw [← mapB_zip hp.hd.len]
 have hz:=entH_of hp.hd
 have hzr : ∀ z ∈ p.held.zip bs,rightM z.1.2 = true:=fun z hzm => hp.hd.rg _ (List.of_mem_zip (a:=z.1) (b:=z.2) hzm).1
 generalize p.held.zip bs = zs at *
 refine ⟨IC H (H.next + 1) zs ck p,⟨_,[],_,rfl,rfl,?_,?_,rfl⟩,?_⟩
 any_goals (simp only [↓vp,vz,Nat.reduceLT,Nat.reduceEqDiff,Nat.reduceLeDiff,Nat.reduceAdd,Nat.reduceSub,Nat.reduceMul,Int.reduceBEq,Int.reduceBNe,Int.reduceLT,Int.reduceLE,Int.reduceEq,reduceIte,reduceCtorEq,da,int,boolA]; done)
 rintro n e H' ⟨seen,f,rfl,rfl,q03,q30,rfl⟩
 have G0 : ∀ a b L,(hx H (a :: b :: L)).get H.next = some a:=fun a b L => hx_get0 _ _
 have G1 : ∀ a b L,(hx H (a :: b :: L)).get (H.next + 1) = some b:=fun a b L => hx_get _ _ 1
 have G2 : ∀ a b c L,(hx H (a :: b :: c :: L)).get (H.next + 2) = some c:=fun a b c L => hx_get _ _ 2
 have S1 : ∀ a b L b',(hx H (a :: b :: L)).set (H.next + 1) b' = hx H (a :: b' :: L):=fun a b L b' => hx_set _ _ _ 1
 have S2 : ∀ a b c c',(hx H [a,b,c]).set (H.next + 2) c' = hx H [a,b,c']:=fun a b c c' => hx_set _ _ _ 2
 unfold c73L0
 simp only [vx,vxm,↓vp,vz,Nat.reduceLT,Nat.reduceEqDiff,Nat.reduceLeDiff,Nat.reduceAdd,Nat.reduceSub,Nat.reduceMul,Int.reduceBEq,Int.reduceBNe,Int.reduceLT,Int.reduceLE,Int.reduceEq,reduceIte,reduceCtorEq,da,int,boolA,q30]
 refine ⟨H.next + 2,H.next + 1,ck,seen,ck,_,_,_,ck,rfl,G2 _ _ _ _,G1 _ _ _,hz.lt,Nat.le_refl _,fun i k v b h1 h2 h3 => ?_,fun hall => ?_⟩
 ·rw [List.getElem?_map,Option.map_eq_some_iff] at h1 h2
  obtain ⟨z,hz1,hze⟩:=h1
  obtain ⟨z',hz2,rfl⟩:=h2
  rw [hz1] at hz2
  cases hz2
  cases hze
  have hzm:=List.mem_of_getElem? hz1
  have hlt:=leftU_step (List.mem_map.2 ⟨z,hzm,rfl⟩ : z.2 ∈ zs.map (·.2)) h3
  have hl2:=right_len (hzr z hzm)
  have k2:=fun H Q => @ku111 ftU rfl z.1.2 (by omega) H Q
  have v2 : pureV ftU (.fn (.func 111) [] []) [encR z.1.2] = some (false,[]):=rfl
  obtain ⟨e1,e2⟩:=put_same zs hz.keys z hzm
  rw [S2]
  simp only [vx,vxm,↓vp,vz,Nat.reduceLT,Nat.reduceEqDiff,Nat.reduceLeDiff,Nat.reduceAdd,Nat.reduceSub,Nat.reduceMul,Int.reduceBEq,Int.reduceBNe,Int.reduceLT,Int.reduceLE,Int.reduceEq,reduceIte,reduceCtorEq,da,int,boolA,q30]
  refine ⟨H.next + 2,H.next + 1,ck,seen,z.2,_,_,_,ck,rfl,G2 _ _ _ _,G1 _ _ _,hz.nd,i,_,_,by rw [List.getElem?_map,hz1]; rfl,by rw [List.getElem?_map,hz1]; rfl,?_⟩
  simp only [entC]
  simp only [int] at e1 e2
  unfold mapB
  simp only [vx,vxm,↓vp,vz,Nat.reduceLT,Nat.reduceEqDiff,Nat.reduceLeDiff,Nat.reduceAdd,Nat.reduceSub,Nat.reduceMul,Int.reduceBEq,Int.reduceBNe,Int.reduceLT,Int.reduceLE,Int.reduceEq,reduceIte,reduceCtorEq,da,int,boolA,dr,q03,q30,G0,G1,k2,v2,keyOk,e1,e2,putB,putC,S1]
  exact ⟨_,hlt,seen ++ [z.2],_,rfl,rfl,by simp only [↓vp,vz,Nat.reduceLT,Nat.reduceEqDiff,Nat.reduceLeDiff,Nat.reduceAdd,Nat.reduceSub,Nat.reduceMul,Int.reduceBEq,Int.reduceBNe,Int.reduceLT,Int.reduceLE,Int.reduceEq,reduceIte,reduceCtorEq,da,int,boolA,q03],by simp only [↓vp,vz,Nat.reduceLT,Nat.reduceEqDiff,Nat.reduceLeDiff,Nat.reduceAdd,Nat.reduceSub,Nat.reduceMul,Int.reduceBEq,Int.reduceBNe,Int.reduceLT,Int.reduceLE,Int.reduceEq,reduceIte,reduceCtorEq,da,int,boolA,q30],rfl⟩
 ·simp only [vx,vxm,↓vp,vz,Nat.reduceLT,Nat.reduceEqDiff,Nat.reduceLeDiff,Nat.reduceAdd,Nat.reduceSub,Nat.reduceMul,Int.reduceBEq,Int.reduceBNe,Int.reduceLT,Int.reduceLE,Int.reduceEq,reduceIte,reduceCtorEq,da,int,boolA,q30]
  unfold c73R1
  simp only [vx,vxm,↓vp,vz,Nat.reduceLT,Nat.reduceEqDiff,Nat.reduceLeDiff,Nat.reduceAdd,Nat.reduceSub,Nat.reduceMul,Int.reduceBEq,Int.reduceBNe,Int.reduceLT,Int.reduceLE,Int.reduceEq,reduceIte,reduceCtorEq,da,int,boolA,q03]
  refine ⟨_,res_tmp (by decide),?_,?_⟩
  ·simp only [↓vp,vz,Nat.reduceLT,Nat.reduceEqDiff,Nat.reduceLeDiff,Nat.reduceAdd,Nat.reduceSub,Nat.reduceMul,Int.reduceBEq,Int.reduceBNe,Int.reduceLT,Int.reduceLE,Int.reduceEq,reduceIte,reduceCtorEq,da,int,boolA]
   exact .inl trivial
  ·refine ⟨by simp [hx_next],fun j B hj => ?_⟩
   rcases Nat.lt_or_ge j H.next with hlt | hge
   ·right
    rw [hx_nil H,hx_get_old _ _ _ hlt] at hj
    rw [hx_get_old _ _ _ hlt,hj]
   ·have hjl:=Heap.get_lt hj
    rw [hx_nil H] at hj hjl
    rw [hx_next] at hjl
    simp at hjl
    rcases (show j = H.next ∨ j = H.next + 1 ∨ j = H.next + 2 by omega) with rfl | rfl | rfl
    ·right
     rw [G0] at hj ⊢
     exact hj
    ·right
     rw [G1] at hj ⊢
     exact hj
    ·left
     rw [G2] at hj
     cases hj
     rfl
noncomputable def copyP (args : List AV) (H : Heap) : Option (AV × Heap) :=
 match args with
 | [.ptr pid 0 0] => match H.get pid with
  | some (.box false [.sc (.int .i64 a),.sc (.int .i64 b),.lst fr,.mp mid]) => match H.get mid with
   | some (.mpb (some .i64) es bs ck) => (decR fr).bind fun f => (decH es).bind fun hd =>
    have:=Classical.propDecidable (HeldH hd bs ck ∧ rightM f = true)
    if HeldH hd bs ck ∧ rightM f = true then some (.ptr H.next 0 0,hx H [.box false [int a,int b,encR f,.mp (H.next + 1)],.mpb (some .i64) (hd.map entC) bs ck,.dead]) else none
   | _ => none
  | _ => none
 | _ => none
theorem copyP_sl : SlF ftU 44 r73 c73 copyP:=by
 intro args H r H' h
 unfold copyP at h
 split at h
 rotate_left
 ·cases h
 rename_i pid
 split at h
 rotate_left
 ·cases h
 rename_i a b fr mid hbox
 split at h
 rotate_left
 ·cases h
 rename_i es bs ck hmap
 simp only [Option.bind_eq_some_iff] at h
 obtain ⟨f,hf,hd,hh,h⟩:=h
 split at h
 rotate_left
 ·cases h
 rename_i hc
 obtain ⟨c1,c2⟩:=hc
 cases h
 obtain rfl:=decR_some hf
 obtain rfl:=decH_some hh
 exact copy_dx (p:=⟨a,b,f,hd⟩) ⟨hbox,hmap,c1,c2⟩
theorem copyP_at {H : Heap} {pid mid : Nat} {p : PoolM} {bs : List Nat} {ck : Nat} (hp : PoolH H pid mid p bs ck) : copyP [.ptr pid 0 0] H = some (.ptr H.next 0 0,hx H [.box false [int p.pages,int p.limit,encR p.free,.mp (H.next + 1)],.mpb (some .i64) (p.held.map entC) bs ck,.dead]):=by
 unfold copyP
 simp only [hp.box,int,encR,hp.map,decR_enc,decH_enc,Option.bind_some]
 rw [if_pos ⟨hp.hd,hp.free⟩]
end Go.VI
namespace Go.VI
attribute [local congr] AW_congr OW_congr DW_congr NW_congr VW_congr GW_congr PW_congr KW_congr ite_congr' GV_congr CV_congr KF_congr
noncomputable def ftB : FT
 | 40 => some (.pprim (goP ftM 40))
 | 42 => some (.pprim (goP ftM 42))
 | 43 => some (.pprim (goP ftM 43))
 | 52 => some (.pprim (goP ftM 52))
 | 53 => some (.pprim (goP ftM 53))
 | 54 => some (.pprim (goP ftM 54))
 | 45 => some (.pprim (goP ftM 45))
 | 48 => some (.go true 51 r48 c48)
 | 49 => some (.pprim (goP ftM 49))
 | 41 => some (.pprim (goP ftM 41))
 | 111 => some (.pprim (cloF 2 16))
 | 120 => some (.prim unionP)
 | 123 => some (.prim delP')
 | 73 => some (.prim copyP)
 | 55 => some (.go true 73 r55 c55)
 | 56 => some (.go true 97 r56 c56)
 | 57 => some (.go false 60 r57 c57)
 | 58 => some (.go true 37 r58 c58)
 | 59 => some (.go false 7 r59 c59)
 | 60 => some (.go false 8 r60 c60)
 | 61 => some (.go false 68 r61 c61)
 | 62 => some (.go true 18 r62 c62)
 | 63 => some (.go false 5 r63 c63)
 | 64 => some (.go false 58 r64 c64)
 | 65 => some (.go false 25 r65 c65)
 | 66 => some (.go true 84 r66 c66)
 | 67 => some (.go false 39 r67 c67)
 | 68 => some (.go true 105 r68 c68)
 | 69 => some (.go true 58 r69 c69)
 | 70 => some (.go true 44 r70 c70)
 | 71 => some (.go true 32 r71 c71)
 | 72 => some (.go false 35 r72 c72)
 | 74 => some (.go false 23 r74 c74)
 | 118 => some (.go true 19 r118 c118)
 | 119 => some (.go false 44 r119 c119)
 | 125 => some (.go true 59 r125 c125)
 | 126 => some (.go true 32 r126 c126)
 | 127 => some (.go true 38 r127 c127)
 | 128 => some (.go true 17 r128 c128)
 | 129 => some (.go true 37 r129 c129)
 | 130 => some (.go true 47 r130 c130)
 | 131 => some (.go true 38 r131 c131)
 | 166 => some (.go true 22 r166 c166)
 | 167 => some (.go true 32 r167 c167)
 | _ => none
def RetW (rs : List ARes) (P : AV → Heap → Prop) (x : AExit) (e : Env) (H : Heap) : Prop:=leaves x = true ∧ ∃ R,resultsA H e rs = some R ∧ P R H
section
variable {P : AV → Heap → Prop} {x : AExit} {n t u : Nat} {f : Nat → AV} {H : Heap}
theorem rw0 : RetW [] P x (mkE n f) H ↔ leaves x = true ∧ P (.tup []) H:=by
 unfold RetW resultsA
 simp [resN]
theorem rw1 : RetW [.tmp t] P x (mkE n f) H ↔ leaves x = true ∧ P (if t < n then f t else .bad) H:=by
 unfold RetW resultsA
 simp only [resT,resN,Option.map_some,Option.some.injEq,exists_eq_left']
theorem rw2 : RetW [.tmp t,.tmp u] P x (mkE n f) H ↔ leaves x = true ∧ P (.tup [if t < n then f t else .bad,if u < n then f u else .bad]) H:=by
 unfold RetW resultsA
 simp only [resT,resN,Option.map_some,Option.some.injEq,exists_eq_left']
theorem rwc {g : Bool} {m : Nat} : RetW [.cell t g m] P x (mkE n f) H ↔ leaves x = true ∧ PW (((cellsAt H (if t < n then f t else .bad) m).bind (pack g)).map fun v => (v,H)) P:=by
 unfold RetW resultsA PW
 simp only [resC,resN,Option.map_some]
 cases ((cellsAt H (if t < n then f t else .bad) m).bind (pack g)) with
 | none => simp
 | some v =>
  simp
  exact fun _ => ⟨fun h => ⟨v,H,⟨rfl,rfl⟩,h⟩,fun ⟨_,_,⟨rfl,rfl⟩,h⟩ => h⟩
end
set_option linter.defProp false in
def rw:=And.intro @rw0 <| And.intro @rw1 <| And.intro @rw2 @rwc
theorem call_W {ft : FT} {k : FuncId} {args : List AV} {K : Heap} {n : Nat} {rs : List ARes} {body : ACode} {P : AV → Heap → Prop} (hk : ft k = some (.go false n rs body)) (hl : args.length ≤ n)
  (h : AW ft body (mkE n (ofL args)) (hx K []) (RetW rs P)) : KW ft (.fn (.func k) [] []) args K P:=by
 rw [hx_nil] at h
 exact call_oW hk hl h
section
variable {k : Nat} {args as' : List AV} {v : AV} {H H1 H2 : Heap} {Q : AV → Heap → Prop}
theorem kB_of (hk : ftB k = some (.pprim (goP ftM k))) (hz : frzCells H args = some (as',H1)) (hc : closedL as' = true) (h : callL ftM (.fn (.func k) [] []) as' Heap.empty = some (v,H2)) : KW ftB (.fn (.func k) [] []) args H Q ↔ Q v H1 :=
 KW_of (call_pprim (as':=as') (p:=goP ftM k) hk (by simpa using hz) (goP_val hc h))
end
section
variable {H : Heap} {Q : AV → Heap → Prop}
theorem kB40 {l : List RunM} (h : l.length ≤ 2000000) : KW ftB (.fn (.func 40) [] []) [encR l] H Q ↔ Q (boolA (rightM l)) H:=kB_of rfl rfl rfl (callL_sub ftM_sub (s40 l h Heap.empty))
theorem kB41 {l : List RunM} (h : l.length ≤ 2000000) : KW ftB (.fn (.func 41) [] []) [encR l] H Q ↔ Q (boolA (rightM l)) H:=kB_of rfl rfl rfl (callL_sub ftM_sub (s41 l h Heap.empty))
theorem kB42 {l : List RunM} (h : l.length ≤ 2000000) : KW ftB (.fn (.func 42) [] []) [encR l] H Q ↔ Q (int (countM l)) H:=kB_of rfl rfl rfl (callL_sub ftM_sub (s42 l h Heap.empty))
theorem kB43 {l : List RunM} (h : l.length ≤ 2000000) : KW ftB (.fn (.func 43) [] []) [encR l] H Q ↔ Q (int (endsM l)) H:=kB_of rfl rfl rfl (callL_sub ftM_sub (s43 l h Heap.empty))
theorem kB45 {a b : List RunM} (h : a.length ≤ 2000000) : KW ftB (.fn (.func 45) [] []) [encR a,encR b] H Q ↔ Q (boolA (sameM a b)) H:=kB_of rfl rfl rfl (callL_sub ftM_sub (s45 a b h Heap.empty))
theorem kB49 {x : RunM} : KW ftB (.fn (.func 49) [] []) [.agg (runC x)] H Q ↔ Q (boolA (mayM x)) H:=kB_of rfl rfl rfl (callL_sub ftM_sub (s49 x Heap.empty))
theorem kB52 {a b : List RunM} (ha : a.length ≤ 100000) (hb : b.length ≤ 100000) : KW ftB (.fn (.func 52) [] []) [encR a,encR b] H Q ↔ Q (encR (unionM a b)) H:=kB_of rfl rfl rfl (callL_sub ftM_sub (s52 a b ha hb Heap.empty))
theorem kB53 {a b : List RunM} (ha : a.length ≤ 2000000) (hb : b.length ≤ 2000000) : KW ftB (.fn (.func 53) [] []) [encR a,encR b] H Q ↔ Q (boolA (meetM a b)) H:=kB_of rfl rfl rfl (s53 a b ha hb Heap.empty)
theorem kB54 {l : List RunM} (h : l.length ≤ 100000) {n : Int} : KW ftB (.fn (.func 54) [] []) [encR l,int n] H Q ↔ Q (.tup [int (tookM l n).1,encR (tookM l n).2.1,boolA (tookM l n).2.2]) H:=kB_of rfl rfl rfl (s54 l h n Heap.empty)
theorem kB111 {l : List RunM} (h : l.length ≤ 1000000) : KW ftB (.fn (.func 111) [] []) [encR l] H Q ↔ Q (encR l) H:=ku111 rfl h
end
structure PoolOk (p : PoolM) : Prop where
 lo : 2 ≤ p.pages
 le : p.pages ≤ p.limit
 hi : p.limit ≤ 16384
 free : ∀ x ∈ p.free,endM x ≤ p.pages
 held : ∀ y ∈ p.held,∀ x ∈ y.2,endM x ≤ p.pages
structure PFrame (pid mid : Nat) (K K' : Heap) : Prop where
 le : K.next ≤ K'.next
 eq : ∀ j,j < K.next → j ≠ pid → j ≠ mid → K'.get j = K.get j
theorem pool_ne {K : Heap} {pid mid : Nat} {p : PoolM} {bs : List Nat} {ck : Nat} (h : PoolH K pid mid p bs ck) : pid ≠ mid:=fun e => by
 have:=h.map
 rw [← e,h.box] at this
 cases this
theorem pool_hx {K : Heap} {pid mid : Nat} {p : PoolM} {bs : List Nat} {ck : Nat} (h : PoolH K pid mid p bs ck) (L : List Blk) : PoolH (hx K L) pid mid p bs ck:=⟨get_old h.box L,get_old h.map L,h.hd,h.free⟩
section
variable {K : Heap} {pid mid : Nat} {p : PoolM} {bs : List Nat} {ck : Nat} (hp : PoolH K pid mid p bs ck) {Q : AV → Heap → Prop}
include hp
theorem o59 : KW ftB (.fn (.func 59) [] []) [.ptr pid 0 0] K Q ↔ Q (int p.pages) K:=by
 refine KW_of (call_o rfl (by simp) ?_)
 unfold c59 r59 RetO
 have q0:=fun L => get_old hp.box L
 simp only [↓vp,vz,Nat.reduceLT,Nat.reduceEqDiff,Nat.reduceLeDiff,Nat.reduceAdd,Nat.reduceSub,Nat.reduceMul,Int.reduceBEq,Int.reduceBNe,Int.reduceLT,Int.reduceLE,Int.reduceEq,reduceIte,reduceCtorEq,da,int,boolA,q0,resultsA,resT,resN]
 exact hx_nil K
theorem o60 : KW ftB (.fn (.func 60) [] []) [.ptr pid 0 0] K Q ↔ Q (encR p.free) K:=by
 refine KW_of (call_o rfl (by simp) ?_)
 unfold c60 r60 RetO
 have q0:=fun L => get_old hp.box L
 have hl:=right_len hp.free
 have k1:=fun H Q => @kB111 H Q p.free (by omega)
 simp only [↓vp,vz,Nat.reduceLT,Nat.reduceEqDiff,Nat.reduceLeDiff,Nat.reduceAdd,Nat.reduceSub,Nat.reduceMul,Int.reduceBEq,Int.reduceBNe,Int.reduceLT,Int.reduceLE,Int.reduceEq,reduceIte,reduceCtorEq,da,int,boolA,q0,k1,resultsA,resT,resN]
 exact hx_nil K
theorem o63 : KW ftB (.fn (.func 63) [] []) [.ptr pid 0 0] K Q ↔ Q (encR (unionSel (fun _ => true) p.held)) (hx K [.dead]):=by
 refine KW_of (call_o rfl (by simp) ?_)
 unfold c63 r63 RetO
 have k1 : ∀ L Q,KW ftB (.fn (.func 120) [] []) [.ptr pid 0 0,.fn (.func 121) [] []] (hx K L) Q ↔ Q (encR (unionSel (fun _ => true) p.held)) (hx (hx K L) [.dead]):=fun L Q =>
  KW_of (callU_prim (p:=unionP) rfl (unionP_at (pool_hx hp L) (test0 _ _) rfl) (by rw [hx_next (hx K L)]; omega))
 simp only [↓vp,vz,Nat.reduceLT,Nat.reduceEqDiff,Nat.reduceLeDiff,Nat.reduceAdd,Nat.reduceSub,Nat.reduceMul,Int.reduceBEq,Int.reduceBNe,Int.reduceLT,Int.reduceLE,Int.reduceEq,reduceIte,reduceCtorEq,da,int,boolA,k1,hx_hx,resultsA,resT,resN]
end
def tailP (p : PoolM) : Int:=match p.free.getLast? with
 | some y => if y.1 + y.2 = p.pages then y.2 else 0
 | none => 0
section
variable {K : Heap} {pid mid : Nat} {p : PoolM} {bs : List Nat} {ck : Nat} (hp : PoolH K pid mid p bs ck) {Q : AV → Heap → Prop}
include hp
theorem o119a (h0 : p.free = []) : callL ftB (.fn (.func 119) [] []) [.ptr pid 0 0] K = some (int 0,K):=by
 refine call_o rfl (by simp) ?_
 unfold c119 r119 RetO
 have q0:=fun L => get_old hp.box L
 have n0 : lenV K 0 (encR p.free) = some (.sc (.int .i64 0),K):=by rw [lenR,h0]; rfl
 have n1 : ∀ H,lenV H 0 (encR p.free) = some (.sc (.int .i64 0),H):=fun H => by rw [lenR,h0]; rfl
 have w1 : IntKind.i64.wrap ((0 : Int) - 1) = -1:=rfl
 have z1 : ((-1 : Int) ≥ 0) = False:=eq_false (by omega)
 have z2 : ((0 : Int) ≤ -1) = False:=eq_false (by omega)
 rw [h0] at n1 q0
 simp only [↓vp,vz,Nat.reduceLT,Nat.reduceEqDiff,Nat.reduceLeDiff,Nat.reduceAdd,Nat.reduceSub,Nat.reduceMul,Int.reduceBEq,Int.reduceBNe,Int.reduceLT,Int.reduceLE,Int.reduceEq,reduceIte,reduceCtorEq,da,int,boolA,q0,n1,w1,z1,z2,resultsA,resT,resN]
 exact hx_nil K
theorem o119b {m : Nat} (gm : m < p.free.length) (hm2 : p.free.length = m + 1) {b : Bool} (hb : (p.free[m].1 + p.free[m].2 == p.pages) = b) : callL ftB (.fn (.func 119) [] []) [.ptr pid 0 0] K = some (int (if b then p.free[m].2 else 0),K):=by
 refine call_o rfl (by simp) ?_
 unfold c119 r119 RetO
 have q0:=fun L => get_old hp.box L
 have hl:=right_len hp.free
 have my:=mayM_iff.1 ((right_iff.1 hp.free).1 _ (List.getElem_mem gm))
 have w2 : IntKind.i64.wrap ((p.free.length : Int) - 1) = (m : Int):=by rw [wrap_i64 (by omega)]; omega
 have w3 : IntKind.i64.wrap (p.free[m].1 + p.free[m].2) = p.free[m].1 + p.free[m].2:=wrap_i64 (by omega)
 have z1 : ((m : Int) ≥ 0) = True:=eq_true (by omega)
 have z2 : ((0 : Int) ≤ m) = True:=eq_true (by omega)
 have n1 : ∀ H,lenV H 0 (encR p.free) = some (.sc (.int .i64 p.free.length),H):=fun H => lenR _
 have i1:=fun H => @atR H p.free m gm
 have c1:=fun H off n => @cR H p.free m off n gm
 simp only [runC,int] at c1
 cases b with
 | true =>
  simp only [↓vp,vz,Nat.reduceLT,Nat.reduceEqDiff,Nat.reduceLeDiff,Nat.reduceAdd,Nat.reduceSub,Nat.reduceMul,Int.reduceBEq,Int.reduceBNe,Int.reduceLT,Int.reduceLE,Int.reduceEq,reduceIte,reduceCtorEq,da,int,boolA,q0,n1,w2,w3,z1,z2,i1,c1,hb,resultsA,resT,resN]
  exact hx_nil K
 | false =>
  simp only [↓vp,vz,Nat.reduceLT,Nat.reduceEqDiff,Nat.reduceLeDiff,Nat.reduceAdd,Nat.reduceSub,Nat.reduceMul,Int.reduceBEq,Int.reduceBNe,Int.reduceLT,Int.reduceLE,Int.reduceEq,reduceIte,reduceCtorEq,da,int,boolA,q0,n1,w2,w3,z1,z2,i1,c1,hb,resultsA,resT,resN]
  exact hx_nil K
theorem o119 : KW ftB (.fn (.func 119) [] []) [.ptr pid 0 0] K Q ↔ Q (int (tailP p)) K:=by
 by_cases h0 : p.free = []
 ·have e : tailP p = 0:=by unfold tailP; rw [h0]; rfl
  rw [e]
  exact KW_of (o119a hp h0)
 ·have hlen : 0 < p.free.length:=List.length_pos_iff.2 h0
  obtain ⟨m,hm2⟩ : ∃ m,p.free.length = m + 1:=⟨p.free.length - 1,by omega⟩
  have gm : m < p.free.length:=by omega
  have e : tailP p = if (p.free[m].1 + p.free[m].2 == p.pages) = true then p.free[m].2 else 0:=by
   unfold tailP
   rw [List.getLast?_eq_getElem?,show p.free.length - 1 = m by omega,List.getElem?_eq_getElem gm]
   simp
  rw [e]
  exact KW_of (o119b hp gm hm2 rfl)
end
end Go.VI
namespace Go.VI
attribute [local congr] AW_congr OW_congr DW_congr NW_congr VW_congr GW_congr PW_congr KW_congr ite_congr' GV_congr CV_congr KF_congr
def boxP (p : PoolM) (mid : Nat) : Blk:=.box false [int p.pages,int p.limit,encR p.free,.mp mid]
def takeF' (p : PoolM) (n : Int) : PoolM × Int × Int :=
 if n > p.limit - (p.pages - tailP p) then (p,0,12)
 else ({ p with free:=if tailP p > 0 then p.free.dropLast else p.free,pages:=p.pages - tailP p + n },p.pages - tailP p,0)
def takeP (p : PoolM) (n : Int) : PoolM × Int × Int :=
 if n < 1 then (p,0,1)
 else if (tookM p.free n).2.2 = true then ({ p with free:=(tookM p.free n).2.1 },(tookM p.free n).1,0)
 else takeF' p n
theorem tail_bd {p : PoolM} (ho : PoolOk p) (hr : rightM p.free = true) : 0 ≤ tailP p ∧ tailP p ≤ p.pages ∧ (0 < tailP p → p.free ≠ []):=by
 unfold tailP
 split
 ·rename_i y hy
  have hmem:=List.mem_of_getLast? hy
  have my:=mayM_iff.1 ((right_iff.1 hr).1 y hmem)
  have hne : p.free ≠ []:=fun e => by rw [e] at hy; cases hy
  have:=ho.lo
  split
  ·exact ⟨by omega,by omega,fun _ => hne⟩
  ·exact ⟨by omega,by omega,fun h => by omega⟩
 ·have:=ho.lo
  exact ⟨by omega,by omega,fun h => by omega⟩
section
variable {K : Heap} {pid mid : Nat} {p : PoolM} {bs : List Nat} {ck : Nat} (hp : PoolH K pid mid p bs ck) {Q : AV → Heap → Prop}
include hp
theorem box_same : K.set pid (boxP p mid) = K:=heap_set_same hp.box
theorem s61a {n : Int} (h : n < 1) : callL ftB (.fn (.func 61) [] []) [.ptr pid 0 0,int n] K = some (.tup [int 0,int 1],K):=by
 have _q:=hp
 refine call_o rfl (by simp) ?_
 unfold c61 r61 RetO
 have d1 : (n < 1) = True:=eq_true h
 simp only [↓vp,vz,Nat.reduceLT,Nat.reduceEqDiff,Nat.reduceLeDiff,Nat.reduceAdd,Nat.reduceSub,Nat.reduceMul,Int.reduceBEq,Int.reduceBNe,Int.reduceLT,Int.reduceLE,Int.reduceEq,reduceIte,reduceCtorEq,da,int,boolA,d1,resultsA,resT,resN]
 exact hx_nil K
theorem s61b {n : Int} (h : ¬ n < 1) (hs : (tookM p.free n).2.2 = true) : callL ftB (.fn (.func 61) [] []) [.ptr pid 0 0,int n] K = some (.tup [int (tookM p.free n).1,int 0],K.set pid (boxP { p with free:=(tookM p.free n).2.1 } mid)):=by
 refine call_o rfl (by simp) ?_
 unfold c61 r61 RetO
 have d1 : (n < 1) = False:=eq_false h
 have q0:=fun L => get_old hp.box L
 have lid:=Heap.get_lt hp.box
 have hl:=right_len hp.free
 have k54:=fun H Q => @kB54 H Q p.free (by omega) n
 have gs : ∀ L b,(hx K L).set pid b = hx (K.set pid b) L:=fun L b => hx_set_old K L b pid lid
 rw [hs] at k54
 simp only [int,boolA] at k54
 simp only [↓vp,vz,Nat.reduceLT,Nat.reduceEqDiff,Nat.reduceLeDiff,Nat.reduceAdd,Nat.reduceSub,Nat.reduceMul,Int.reduceBEq,Int.reduceBNe,Int.reduceLT,Int.reduceLE,Int.reduceEq,reduceIte,reduceCtorEq,da,int,boolA,dr,d1,q0,k54,gs,resultsA,resT,resN]
 exact hx_nil _
theorem s61c {n : Int} (h : ¬ n < 1) (hs : (tookM p.free n).2.2 = false) (ho : PoolOk p) (hf : n > p.limit - (p.pages - tailP p)) : callL ftB (.fn (.func 61) [] []) [.ptr pid 0 0,int n] K = some (.tup [int 0,int 12],K):=by
 refine call_o rfl (by simp) ?_
 unfold c61 r61 RetO
 have d1 : (n < 1) = False:=eq_false h
 have q0:=fun L => get_old hp.box L
 have hl:=right_len hp.free
 have k54:=fun H Q => @kB54 H Q p.free (by omega) n
 have k119:=fun L Q => @o119 (hx K L) pid mid p bs ck (pool_hx hp L) Q
 have tb:=tail_bd ho hp.free
 have w1 : IntKind.i64.wrap (p.pages - tailP p) = p.pages - tailP p:=wrap_i64 (by have:=ho.le; have:=ho.hi; omega)
 have w2 : IntKind.i64.wrap (p.limit - (p.pages - tailP p)) = p.limit - (p.pages - tailP p):=wrap_i64 (by have:=ho.le; have:=ho.hi; have:=ho.lo; omega)
 have d2 : (n > p.limit - (p.pages - tailP p)) = True:=eq_true hf
 have d3 : (p.limit - (p.pages - tailP p) < n) = True:=eq_true hf
 rw [hs] at k54
 simp only [int,boolA] at k54 k119
 simp only [↓vp,vz,Nat.reduceLT,Nat.reduceEqDiff,Nat.reduceLeDiff,Nat.reduceAdd,Nat.reduceSub,Nat.reduceMul,Int.reduceBEq,Int.reduceBNe,Int.reduceLT,Int.reduceLE,Int.reduceEq,reduceIte,reduceCtorEq,da,int,boolA,dr,d1,q0,k54,k119,w1,w2,d2,d3,resultsA,resT,resN]
 exact hx_nil _
theorem s61d {n : Int} (h : ¬ n < 1) (hs : (tookM p.free n).2.2 = false) (ho : PoolOk p) (hf : ¬ n > p.limit - (p.pages - tailP p)) (ht : ¬ tailP p > 0) : callL ftB (.fn (.func 61) [] []) [.ptr pid 0 0,int n] K = some (.tup [int (p.pages - tailP p),int 0],K.set pid (boxP { p with pages:=p.pages - tailP p + n } mid)):=by
 refine call_o rfl (by simp) ?_
 unfold c61 r61 RetO
 have d1 : (n < 1) = False:=eq_false h
 have q0:=fun L => get_old hp.box L
 have lid:=Heap.get_lt hp.box
 have hl:=right_len hp.free
 have k54:=fun H Q => @kB54 H Q p.free (by omega) n
 have k119:=fun L Q => @o119 (hx K L) pid mid p bs ck (pool_hx hp L) Q
 have tb:=tail_bd ho hp.free
 have w1 : IntKind.i64.wrap (p.pages - tailP p) = p.pages - tailP p:=wrap_i64 (by have:=ho.le; have:=ho.hi; omega)
 have w2 : IntKind.i64.wrap (p.limit - (p.pages - tailP p)) = p.limit - (p.pages - tailP p):=wrap_i64 (by have:=ho.le; have:=ho.hi; have:=ho.lo; omega)
 have w3 : IntKind.i64.wrap (p.pages - tailP p + n) = p.pages - tailP p + n:=wrap_i64 (by have:=ho.le; have:=ho.hi; have:=ho.lo; omega)
 have d2 : (n > p.limit - (p.pages - tailP p)) = False:=eq_false hf
 have d3 : (p.limit - (p.pages - tailP p) < n) = False:=eq_false hf
 have d4 : (tailP p > 0) = False:=eq_false ht
 have d5 : (0 < tailP p) = False:=eq_false ht
 have gs : ∀ L b,(hx K L).set pid b = hx (K.set pid b) L:=fun L b => hx_set_old K L b pid lid
 rw [hs] at k54
 simp only [int,boolA] at k54 k119
 simp only [↓vp,vz,Nat.reduceLT,Nat.reduceEqDiff,Nat.reduceLeDiff,Nat.reduceAdd,Nat.reduceSub,Nat.reduceMul,Int.reduceBEq,Int.reduceBNe,Int.reduceLT,Int.reduceLE,Int.reduceEq,reduceIte,reduceCtorEq,da,int,boolA,dr,d1,q0,k54,k119,w1,w2,w3,d2,d3,d4,d5,gs,resultsA,resT,resN]
 exact hx_nil _
theorem s61e {n : Int} (h : ¬ n < 1) (hs : (tookM p.free n).2.2 = false) (ho : PoolOk p) (hf : ¬ n > p.limit - (p.pages - tailP p)) (ht : tailP p > 0) : callL ftB (.fn (.func 61) [] []) [.ptr pid 0 0,int n] K = some (.tup [int (p.pages - tailP p),int 0],K.set pid (boxP { p with free:=p.free.dropLast,pages:=p.pages - tailP p + n } mid)):=by
 refine call_o rfl (by simp) ?_
 unfold c61 r61 RetO
 have d1 : (n < 1) = False:=eq_false h
 have q0:=fun L => get_old hp.box L
 have lid:=Heap.get_lt hp.box
 have hl:=right_len hp.free
 have k54:=fun H Q => @kB54 H Q p.free (by omega) n
 have k119:=fun L Q => @o119 (hx K L) pid mid p bs ck (pool_hx hp L) Q
 have tb:=tail_bd ho hp.free
 have w1 : IntKind.i64.wrap (p.pages - tailP p) = p.pages - tailP p:=wrap_i64 (by have:=ho.le; have:=ho.hi; omega)
 have w2 : IntKind.i64.wrap (p.limit - (p.pages - tailP p)) = p.limit - (p.pages - tailP p):=wrap_i64 (by have:=ho.le; have:=ho.hi; have:=ho.lo; omega)
 have w3 : IntKind.i64.wrap (p.pages - tailP p + n) = p.pages - tailP p + n:=wrap_i64 (by have:=ho.le; have:=ho.hi; have:=ho.lo; omega)
 have d2 : (n > p.limit - (p.pages - tailP p)) = False:=eq_false hf
 have d3 : (p.limit - (p.pages - tailP p) < n) = False:=eq_false hf
 have d4 : (tailP p > 0) = True:=eq_true ht
 have d5 : (0 < tailP p) = True:=eq_true ht
 have hne:=tb.2.2 ht
 have hpos : 0 < p.free.length:=List.length_pos_iff.2 hne
 have w4 : IntKind.i64.wrap ((p.free.length : Int) - 1) = ((p.free.length - 1 : Nat) : Int):=by rw [wrap_i64 (by omega)]; omega
 have hsl : ∀ H,sliceA H 2 (encR p.free) none (some ((p.free.length - 1 : Nat) : Int)) none = some (encR p.free.dropLast):=fun H => by
  unfold sliceA boundsA encR
  simp only [Option.getD_some,Option.getD_none,List.length_map]
  rw [if_pos ⟨by omega,by omega,by omega,by omega⟩]
  simp only [Option.bind_some]
  rw [if_pos (.inl rfl)]
  rw [Int.toNat_natCast,show Int.toNat 0 = 0 from rfl,List.drop_zero,Nat.sub_zero,← List.map_take,List.dropLast_eq_take]
 have gs : ∀ L b,(hx K L).set pid b = hx (K.set pid b) L:=fun L b => hx_set_old K L b pid lid
 have gg : ∀ L b,(hx (K.set pid b) L).get pid = some b:=fun L b => get_old (Heap.get_set_self _ lid) L
 have gs2 : ∀ L b b',(hx (K.set pid b) L).set pid b' = hx (K.set pid b') L:=fun L b b' => by
  rw [hx_set_old _ _ _ _ (by rw [Heap.next_set]; exact lid)]
  congr 1
  simp [Heap.set]
 rw [hs] at k54
 simp only [int,boolA] at k54 k119
 simp only [↓vp,vz,Nat.reduceLT,Nat.reduceEqDiff,Nat.reduceLeDiff,Nat.reduceAdd,Nat.reduceSub,Nat.reduceMul,Int.reduceBEq,Int.reduceBNe,Int.reduceLT,Int.reduceLE,Int.reduceEq,reduceIte,reduceCtorEq,da,int,boolA,dr,d1,q0,k54,k119,w1,w2,w3,w4,d2,d3,d4,d5,opI1,opI0,toI,hsl,gs,gg,gs2,resultsA,resT,resN]
 exact hx_nil _
theorem o61 (ho : PoolOk p) (n : Int) : KW ftB (.fn (.func 61) [] []) [.ptr pid 0 0,int n] K Q ↔ Q (.tup [int (takeP p n).2.1,int (takeP p n).2.2]) (K.set pid (boxP (takeP p n).1 mid)):=by
 refine KW_of ?_
 unfold takeP
 by_cases h1 : n < 1
 ·rw [if_pos h1,box_same hp]
  exact s61a hp h1
 rw [if_neg h1]
 cases h2 : (tookM p.free n).2.2 with
 | true =>
  rw [if_pos rfl]
  exact s61b hp h1 h2
 | false =>
  rw [if_neg (by simp)]
  unfold takeF'
  by_cases h3 : n > p.limit - (p.pages - tailP p)
  ·rw [if_pos h3,box_same hp]
   exact s61c hp h1 h2 ho h3
  ·rw [if_neg h3]
   by_cases h4 : tailP p > 0
   ·simp only [if_pos h4]
    exact s61e hp h1 h2 ho h3 h4
   ·simp only [if_neg h4]
    exact s61d hp h1 h2 ho h3 h4
end
end Go.VI
namespace Go.VI
attribute [local congr] AW_congr OW_congr DW_congr NW_congr VW_congr GW_congr PW_congr KW_congr ite_congr' GV_congr CV_congr KF_congr
def firstOk (l : List RunM) : Bool:=match l with
 | [] => true
 | x :: _ => decide (2 ≤ x.1)
def mayS (l : List RunM) : Bool:=rightM l && decide (endsM l ≤ 16384) && firstOk l
theorem s166 (l : List RunM) (hl : l.length ≤ 2000000) (H : Heap) : callL ftB (.fn (.func 166) [] []) [encR l] H = some (boolA (mayS l),H):=by
 refine call_p (as':=[encR l]) rfl rfl (by simp) ?_
 unfold c166 r166
 have k40:=fun H Q => @kB40 H Q l hl
 have k43:=fun H Q => @kB43 H Q l hl
 cases e1 : rightM l with
 | false =>
  have e : mayS l = false:=by unfold mayS; rw [e1]; rfl
  rw [e1] at k40
  rw [e]
  simp only [↓vp,vz,Nat.reduceLT,Nat.reduceEqDiff,Nat.reduceLeDiff,Nat.reduceAdd,Nat.reduceSub,Nat.reduceMul,Int.reduceBEq,Int.reduceBNe,Int.reduceLT,Int.reduceLE,Int.reduceEq,reduceIte,reduceCtorEq,da,int,boolA,rt,dr,k40]
 | true =>
  rw [e1] at k40
  by_cases e2 : endsM l ≤ 16384
  ·have d2 : (endsM l ≤ 16384) = True:=eq_true e2
   by_cases h0 : l = []
   ·subst h0
    have e : mayS [] = true:=by decide
    rw [e]
    have n1 : ∀ H,lenV H 0 (encR []) = some (.sc (.int .i64 0),H):=fun _ => rfl
    simp only [↓vp,vz,Nat.reduceLT,Nat.reduceEqDiff,Nat.reduceLeDiff,Nat.reduceAdd,Nat.reduceSub,Nat.reduceMul,Int.reduceBEq,Int.reduceBNe,Int.reduceLT,Int.reduceLE,Int.reduceEq,reduceIte,reduceCtorEq,da,int,boolA,rt,k40,k43,d2,n1]
   ·have gi : 0 < l.length:=List.length_pos_iff.2 h0
    have hfo : firstOk l = decide (2 ≤ l[0].1):=by
     cases l with
     | nil => exact absurd rfl h0
     | cons x l => rfl
    have hz : ((l.length : Int) == 0) = false:=by simp; omega
    have n1 : ∀ H,lenV H 0 (encR l) = some (.sc (.int .i64 (l.length : Nat)),H):=fun _ => lenR _
    have i1 : ∀ H,iaddrA H none 2 (encR l) 0 = some (.pim (l.map runC) 0 0):=fun H => atR (i:=0) gi
    have c1:=fun H off n => @cR H l 0 off n gi
    simp only [runC,int] at c1
    by_cases e3 : 2 ≤ l[0].1
    ·have d3 : (l[0].1 ≥ 2) = True:=eq_true e3
     have d4 : (2 ≤ l[0].1) = True:=eq_true e3
     have e : mayS l = true:=by unfold mayS; rw [e1,decide_eq_true e2,hfo,decide_eq_true e3]; rfl
     rw [e]
     simp only [↓vp,vz,Nat.reduceLT,Nat.reduceEqDiff,Nat.reduceLeDiff,Nat.reduceAdd,Nat.reduceSub,Nat.reduceMul,Int.reduceBEq,Int.reduceBNe,Int.reduceLT,Int.reduceLE,Int.reduceEq,reduceIte,reduceCtorEq,da,int,boolA,rt,k40,k43,d2,n1,hz,i1,c1,d3,d4]
    ·have d3 : (l[0].1 ≥ 2) = False:=eq_false e3
     have d4 : (2 ≤ l[0].1) = False:=eq_false e3
     have e : mayS l = false:=by unfold mayS; rw [e1,decide_eq_true e2,hfo,decide_eq_false e3]; rfl
     rw [e]
     simp only [↓vp,vz,Nat.reduceLT,Nat.reduceEqDiff,Nat.reduceLeDiff,Nat.reduceAdd,Nat.reduceSub,Nat.reduceMul,Int.reduceBEq,Int.reduceBNe,Int.reduceLT,Int.reduceLE,Int.reduceEq,reduceIte,reduceCtorEq,da,int,boolA,rt,k40,k43,d2,n1,hz,i1,c1,d3,d4]
  ·have d2 : (endsM l ≤ 16384) = False:=eq_false e2
   have e : mayS l = false:=by unfold mayS; rw [e1,decide_eq_false e2]; rfl
   rw [e]
   simp only [↓vp,vz,Nat.reduceLT,Nat.reduceEqDiff,Nat.reduceLeDiff,Nat.reduceAdd,Nat.reduceSub,Nat.reduceMul,Int.reduceBEq,Int.reduceBNe,Int.reduceLT,Int.reduceLE,Int.reduceEq,reduceIte,reduceCtorEq,da,int,boolA,rt,k40,k43,d2]
def rightS (f h : List RunM) : Bool:=mayS f && mayS h && !meetM f h
theorem s118 (f h : List RunM) (hf : f.length ≤ 2000000) (hh : h.length ≤ 2000000) (H : Heap) : callL ftB (.fn (.func 118) [] []) [.agg [encR f,encR h]] H = some (boolA (rightS f h),H):=by
 refine call_p (as':=[.agg [encR f,encR h]]) rfl rfl (by simp) ?_
 unfold c118 r118 rightS
 have k1:=fun K L Q => @KW_of ftB _ _ _ Q _ _ (s166 f hf (hx K L))
 have k2:=fun K L Q => @KW_of ftB _ _ _ Q _ _ (s166 h hh (hx K L))
 have k3:=fun H Q => @kB53 H Q f h hf hh
 cases e1 : mayS f with
 | false =>
  rw [e1] at k1
  simp only [↓vp,vz,Nat.reduceLT,Nat.reduceEqDiff,Nat.reduceLeDiff,Nat.reduceAdd,Nat.reduceSub,Nat.reduceMul,Int.reduceBEq,Int.reduceBNe,Int.reduceLT,Int.reduceLE,Int.reduceEq,reduceIte,reduceCtorEq,da,int,boolA,rt,dr,k1,Bool.false_and]
 | true =>
  rw [e1] at k1
  cases e2 : mayS h with
  | false =>
   rw [e2] at k2
   simp only [↓vp,vz,Nat.reduceLT,Nat.reduceEqDiff,Nat.reduceLeDiff,Nat.reduceAdd,Nat.reduceSub,Nat.reduceMul,Int.reduceBEq,Int.reduceBNe,Int.reduceLT,Int.reduceLE,Int.reduceEq,reduceIte,reduceCtorEq,da,int,boolA,rt,dr,k1,k2,Bool.false_and,Bool.and_false]
  | true =>
   rw [e2] at k2
   simp only [↓vp,vz,Nat.reduceLT,Nat.reduceEqDiff,Nat.reduceLeDiff,Nat.reduceAdd,Nat.reduceSub,Nat.reduceMul,Int.reduceBEq,Int.reduceBNe,Int.reduceLT,Int.reduceLE,Int.reduceEq,reduceIte,reduceCtorEq,da,int,boolA,rt,dr,k1,k2,k3,Bool.true_and,Bool.and_true]
def okNew (f h : List RunM) (txid pages limit : Int) : Bool :=
 rightS f h && (decide (endsM f ≤ pages) && decide (endsM h ≤ pages)) && !decide (pages < 2) && !decide (pages > limit) && !decide (limit > 16384) && !decide (txid < 0)
def newP (f h : List RunM) (txid pages limit : Int) : PoolM:=⟨pages,limit,f,[(txid,h)]⟩
section
variable {K : Heap} {f h : List RunM} {txid pages limit : Int} (hf : f.length ≤ 2000000) (hh : h.length ≤ 2000000)
include hf hh
theorem s57A1 (hr : rightS f h = false) (hwf : ¬ (endsM f ≤ pages)) : callL ftB (.fn (.func 57) [] []) [.agg [encR f,encR h],int txid,int pages,int limit] K = some (.tup [.sc (.pointer none),int 1],hx K [.box false [encR f,encR h]]):=by
 have k1:=fun L Q => @KW_of ftB _ _ _ Q _ _ (s118 f h hf hh (hx K L))
 have k43f:=fun H Q => @kB43 H Q f hf
 have k43h:=fun H Q => @kB43 H Q h hh
 refine call_o rfl (by simp) ?_
 unfold c57 r57 RetO
 rw [hr] at k1
 have dwf0 : (endsM f ≤ pages) = False:=eq_false hwf
 simp only [↓vp,vz,Nat.reduceLT,Nat.reduceEqDiff,Nat.reduceLeDiff,Nat.reduceAdd,Nat.reduceSub,Nat.reduceMul,Int.reduceBEq,Int.reduceBNe,Int.reduceLT,Int.reduceLE,Int.reduceEq,reduceIte,reduceCtorEq,da,int,boolA,dr,k43f,k43h,k1,dwf0,resultsA,resT,resN]
theorem s57A2 (hr : rightS f h = true) (hwf : ¬ (endsM f ≤ pages)) : callL ftB (.fn (.func 57) [] []) [.agg [encR f,encR h],int txid,int pages,int limit] K = some (.tup [.sc (.pointer none),int 1],hx K [.box false [encR f,encR h]]):=by
 have k1:=fun L Q => @KW_of ftB _ _ _ Q _ _ (s118 f h hf hh (hx K L))
 have k43f:=fun H Q => @kB43 H Q f hf
 have k43h:=fun H Q => @kB43 H Q h hh
 refine call_o rfl (by simp) ?_
 unfold c57 r57 RetO
 rw [hr] at k1
 have dwf0 : (endsM f ≤ pages) = False:=eq_false hwf
 simp only [↓vp,vz,Nat.reduceLT,Nat.reduceEqDiff,Nat.reduceLeDiff,Nat.reduceAdd,Nat.reduceSub,Nat.reduceMul,Int.reduceBEq,Int.reduceBNe,Int.reduceLT,Int.reduceLE,Int.reduceEq,reduceIte,reduceCtorEq,da,int,boolA,dr,k43f,k43h,k1,dwf0,resultsA,resT,resN]
theorem s57B1 (hr : rightS f h = false) (hwf : (endsM f ≤ pages)) (hwh : ¬ (endsM h ≤ pages)) : callL ftB (.fn (.func 57) [] []) [.agg [encR f,encR h],int txid,int pages,int limit] K = some (.tup [.sc (.pointer none),int 1],hx K [.box false [encR f,encR h]]):=by
 have k1:=fun L Q => @KW_of ftB _ _ _ Q _ _ (s118 f h hf hh (hx K L))
 have k43f:=fun H Q => @kB43 H Q f hf
 have k43h:=fun H Q => @kB43 H Q h hh
 refine call_o rfl (by simp) ?_
 unfold c57 r57 RetO
 rw [hr] at k1
 have dwf0 : (endsM f ≤ pages) = True:=eq_true hwf
 have dwh0 : (endsM h ≤ pages) = False:=eq_false hwh
 simp only [↓vp,vz,Nat.reduceLT,Nat.reduceEqDiff,Nat.reduceLeDiff,Nat.reduceAdd,Nat.reduceSub,Nat.reduceMul,Int.reduceBEq,Int.reduceBNe,Int.reduceLT,Int.reduceLE,Int.reduceEq,reduceIte,reduceCtorEq,da,int,boolA,dr,k43f,k43h,k1,dwf0,dwh0,resultsA,resT,resN]
theorem s57B2 (hr : rightS f h = true) (hwf : (endsM f ≤ pages)) (hwh : ¬ (endsM h ≤ pages)) : callL ftB (.fn (.func 57) [] []) [.agg [encR f,encR h],int txid,int pages,int limit] K = some (.tup [.sc (.pointer none),int 1],hx K [.box false [encR f,encR h]]):=by
 have k1:=fun L Q => @KW_of ftB _ _ _ Q _ _ (s118 f h hf hh (hx K L))
 have k43f:=fun H Q => @kB43 H Q f hf
 have k43h:=fun H Q => @kB43 H Q h hh
 refine call_o rfl (by simp) ?_
 unfold c57 r57 RetO
 rw [hr] at k1
 have dwf0 : (endsM f ≤ pages) = True:=eq_true hwf
 have dwh0 : (endsM h ≤ pages) = False:=eq_false hwh
 simp only [↓vp,vz,Nat.reduceLT,Nat.reduceEqDiff,Nat.reduceLeDiff,Nat.reduceAdd,Nat.reduceSub,Nat.reduceMul,Int.reduceBEq,Int.reduceBNe,Int.reduceLT,Int.reduceLE,Int.reduceEq,reduceIte,reduceCtorEq,da,int,boolA,dr,k43f,k43h,k1,dwf0,dwh0,resultsA,resT,resN]
theorem s57C1 (hr : rightS f h = false) (hwf : (endsM f ≤ pages)) (hwh : (endsM h ≤ pages)) : callL ftB (.fn (.func 57) [] []) [.agg [encR f,encR h],int txid,int pages,int limit] K = some (.tup [.sc (.pointer none),int 1],hx K [.box false [encR f,encR h]]):=by
 have k1:=fun L Q => @KW_of ftB _ _ _ Q _ _ (s118 f h hf hh (hx K L))
 have k43f:=fun H Q => @kB43 H Q f hf
 have k43h:=fun H Q => @kB43 H Q h hh
 refine call_o rfl (by simp) ?_
 unfold c57 r57 RetO
 rw [hr] at k1
 have dwf0 : (endsM f ≤ pages) = True:=eq_true hwf
 have dwh0 : (endsM h ≤ pages) = True:=eq_true hwh
 simp only [↓vp,vz,Nat.reduceLT,Nat.reduceEqDiff,Nat.reduceLeDiff,Nat.reduceAdd,Nat.reduceSub,Nat.reduceMul,Int.reduceBEq,Int.reduceBNe,Int.reduceLT,Int.reduceLE,Int.reduceEq,reduceIte,reduceCtorEq,da,int,boolA,dr,k43f,k43h,k1,dwf0,dwh0,resultsA,resT,resN]
theorem s57D1 (hr : rightS f h = true) (hwf : (endsM f ≤ pages)) (hwh : (endsM h ≤ pages)) (hp2 : (pages < 2)) : callL ftB (.fn (.func 57) [] []) [.agg [encR f,encR h],int txid,int pages,int limit] K = some (.tup [.sc (.pointer none),int 1],hx K [.box false [encR f,encR h]]):=by
 have k1:=fun L Q => @KW_of ftB _ _ _ Q _ _ (s118 f h hf hh (hx K L))
 have k43f:=fun H Q => @kB43 H Q f hf
 have k43h:=fun H Q => @kB43 H Q h hh
 refine call_o rfl (by simp) ?_
 unfold c57 r57 RetO
 rw [hr] at k1
 have dwf0 : (endsM f ≤ pages) = True:=eq_true hwf
 have dwh0 : (endsM h ≤ pages) = True:=eq_true hwh
 have dp20 : (pages < 2) = True:=eq_true hp2
 simp only [↓vp,vz,Nat.reduceLT,Nat.reduceEqDiff,Nat.reduceLeDiff,Nat.reduceAdd,Nat.reduceSub,Nat.reduceMul,Int.reduceBEq,Int.reduceBNe,Int.reduceLT,Int.reduceLE,Int.reduceEq,reduceIte,reduceCtorEq,da,int,boolA,dr,k43f,k43h,k1,dwf0,dwh0,dp20,resultsA,resT,resN]
theorem s57E1 (hr : rightS f h = true) (hwf : (endsM f ≤ pages)) (hwh : (endsM h ≤ pages)) (hp2 : ¬ (pages < 2)) (hpl : (pages > limit)) : callL ftB (.fn (.func 57) [] []) [.agg [encR f,encR h],int txid,int pages,int limit] K = some (.tup [.sc (.pointer none),int 1],hx K [.box false [encR f,encR h]]):=by
 have k1:=fun L Q => @KW_of ftB _ _ _ Q _ _ (s118 f h hf hh (hx K L))
 have k43f:=fun H Q => @kB43 H Q f hf
 have k43h:=fun H Q => @kB43 H Q h hh
 refine call_o rfl (by simp) ?_
 unfold c57 r57 RetO
 rw [hr] at k1
 have dwf0 : (endsM f ≤ pages) = True:=eq_true hwf
 have dwh0 : (endsM h ≤ pages) = True:=eq_true hwh
 have dp20 : (pages < 2) = False:=eq_false hp2
 have dpl0 : (pages > limit) = True:=eq_true hpl
 have dpl1 : (limit < pages) = True:=eq_true hpl
 simp only [↓vp,vz,Nat.reduceLT,Nat.reduceEqDiff,Nat.reduceLeDiff,Nat.reduceAdd,Nat.reduceSub,Nat.reduceMul,Int.reduceBEq,Int.reduceBNe,Int.reduceLT,Int.reduceLE,Int.reduceEq,reduceIte,reduceCtorEq,da,int,boolA,dr,k43f,k43h,k1,dwf0,dwh0,dp20,dpl0,dpl1,resultsA,resT,resN]
theorem s57F1 (hr : rightS f h = true) (hwf : (endsM f ≤ pages)) (hwh : (endsM h ≤ pages)) (hp2 : ¬ (pages < 2)) (hpl : ¬ (pages > limit)) (hlm : (limit > 16384)) : callL ftB (.fn (.func 57) [] []) [.agg [encR f,encR h],int txid,int pages,int limit] K = some (.tup [.sc (.pointer none),int 1],hx K [.box false [encR f,encR h]]):=by
 have k1:=fun L Q => @KW_of ftB _ _ _ Q _ _ (s118 f h hf hh (hx K L))
 have k43f:=fun H Q => @kB43 H Q f hf
 have k43h:=fun H Q => @kB43 H Q h hh
 refine call_o rfl (by simp) ?_
 unfold c57 r57 RetO
 rw [hr] at k1
 have dwf0 : (endsM f ≤ pages) = True:=eq_true hwf
 have dwh0 : (endsM h ≤ pages) = True:=eq_true hwh
 have dp20 : (pages < 2) = False:=eq_false hp2
 have dpl0 : (pages > limit) = False:=eq_false hpl
 have dpl1 : (limit < pages) = False:=eq_false hpl
 have dlm0 : (limit > 16384) = True:=eq_true hlm
 have dlm1 : (16384 < limit) = True:=eq_true hlm
 simp only [↓vp,vz,Nat.reduceLT,Nat.reduceEqDiff,Nat.reduceLeDiff,Nat.reduceAdd,Nat.reduceSub,Nat.reduceMul,Int.reduceBEq,Int.reduceBNe,Int.reduceLT,Int.reduceLE,Int.reduceEq,reduceIte,reduceCtorEq,da,int,boolA,dr,k43f,k43h,k1,dwf0,dwh0,dp20,dpl0,dpl1,dlm0,dlm1,resultsA,resT,resN]
theorem s57G1 (hr : rightS f h = true) (hwf : (endsM f ≤ pages)) (hwh : (endsM h ≤ pages)) (hp2 : ¬ (pages < 2)) (hpl : ¬ (pages > limit)) (hlm : ¬ (limit > 16384)) (htx : (txid < 0)) : callL ftB (.fn (.func 57) [] []) [.agg [encR f,encR h],int txid,int pages,int limit] K = some (.tup [.sc (.pointer none),int 1],hx K [.box false [encR f,encR h]]):=by
 have k1:=fun L Q => @KW_of ftB _ _ _ Q _ _ (s118 f h hf hh (hx K L))
 have k43f:=fun H Q => @kB43 H Q f hf
 have k43h:=fun H Q => @kB43 H Q h hh
 refine call_o rfl (by simp) ?_
 unfold c57 r57 RetO
 rw [hr] at k1
 have dwf0 : (endsM f ≤ pages) = True:=eq_true hwf
 have dwh0 : (endsM h ≤ pages) = True:=eq_true hwh
 have dp20 : (pages < 2) = False:=eq_false hp2
 have dpl0 : (pages > limit) = False:=eq_false hpl
 have dpl1 : (limit < pages) = False:=eq_false hpl
 have dlm0 : (limit > 16384) = False:=eq_false hlm
 have dlm1 : (16384 < limit) = False:=eq_false hlm
 have dtx0 : (txid < 0) = True:=eq_true htx
 simp only [↓vp,vz,Nat.reduceLT,Nat.reduceEqDiff,Nat.reduceLeDiff,Nat.reduceAdd,Nat.reduceSub,Nat.reduceMul,Int.reduceBEq,Int.reduceBNe,Int.reduceLT,Int.reduceLE,Int.reduceEq,reduceIte,reduceCtorEq,da,int,boolA,dr,k43f,k43h,k1,dwf0,dwh0,dp20,dpl0,dpl1,dlm0,dlm1,dtx0,resultsA,resT,resN]
theorem s57 : callL ftB (.fn (.func 57) [] []) [.agg [encR f,encR h],int txid,int pages,int limit] K = if okNew f h txid pages limit then
  some (.tup [.ptr (K.next + 2) 0 0,int 0],hx K [.box false [encR f,encR h],.mpb (some .i64) [entC (txid,h)] [0] 1,boxP (newP f h txid pages limit) (K.next + 1)])
  else some (.tup [.sc (.pointer none),int 1],hx K [.box false [encR f,encR h]]):=by
 have k1:=fun L Q => @KW_of ftB _ _ _ Q _ _ (s118 f h hf hh (hx K L))
 have k43f:=fun H Q => @kB43 H Q f hf
 have k43h:=fun H Q => @kB43 H Q h hh
 cases e1 : okNew f h txid pages limit with
 | true =>
  rw [if_pos rfl]
  unfold okNew at e1
  simp only [Bool.and_eq_true,Bool.not_eq_true',decide_eq_true_eq,decide_eq_false_iff_not] at e1
  obtain ⟨⟨⟨⟨⟨a1,a2,a3⟩,a4⟩,a5⟩,a6⟩,a7⟩:=e1
  refine call_o rfl (by simp) ?_
  unfold c57 r57 RetO
  have d2 : (endsM f ≤ pages) = True:=eq_true a2
  have d3 : (endsM h ≤ pages) = True:=eq_true a3
  have d4 : (pages < 2) = False:=eq_false a4
  have d5 : (pages > limit) = False:=eq_false a5
  have d5' : (limit < pages) = False:=eq_false a5
  have d6 : (limit > 16384) = False:=eq_false a6
  have d6' : (16384 < limit) = False:=eq_false a6
  have d7 : (txid < 0) = False:=eq_false a7
  rw [a1] at k1
  have r1 : rightM f = true ∧ rightM h = true:=by
   unfold rightS mayS at a1
   simp only [Bool.and_eq_true] at a1
   exact ⟨a1.1.1.1.1,a1.1.2.1.1⟩
  have l1:=right_len r1.1
  have l2:=right_len r1.2
  have k111f:=fun H Q => @kB111 H Q f (by omega)
  have k111h:=fun H Q => @kB111 H Q h (by omega)
  have v1 : pureV ftB (.fn (.func 111) [] []) [encR f] = some (false,[]):=rfl
  have v2 : pureV ftB (.fn (.func 111) [] []) [encR h] = some (false,[]):=rfl
  simp only [↓vp,vz,Nat.reduceLT,Nat.reduceEqDiff,Nat.reduceLeDiff,Nat.reduceAdd,Nat.reduceSub,Nat.reduceMul,Int.reduceBEq,Int.reduceBNe,Int.reduceLT,Int.reduceLE,Int.reduceEq,reduceIte,reduceCtorEq,da,int,boolA,dr,k43f,k43h,k1,d2,d3,d4,d5,d5',d6,d6',d7,k111f,k111h,v1,v2,keyOk,resultsA,resT,resN]
  rfl
 | false =>
  rw [if_neg (by simp)]
  by_cases hwf : endsM f ≤ pages
  ·by_cases hwh : endsM h ≤ pages
   ·cases hr : rightS f h with
    | false => exact s57C1 hf hh hr hwf hwh
    | true =>
     by_cases hp2 : pages < 2
     ·exact s57D1 hf hh hr hwf hwh hp2
     by_cases hpl : pages > limit
     ·exact s57E1 hf hh hr hwf hwh hp2 hpl
     by_cases hlm : limit > 16384
     ·exact s57F1 hf hh hr hwf hwh hp2 hpl hlm
     by_cases htx : txid < 0
     ·exact s57G1 hf hh hr hwf hwh hp2 hpl hlm htx
     ·exfalso
      unfold okNew at e1
      rw [hr,decide_eq_true hwf,decide_eq_true hwh,decide_eq_false hp2,decide_eq_false hpl,decide_eq_false hlm,decide_eq_false htx] at e1
      cases e1
   ·cases hr : rightS f h with
    | false => exact s57B1 hf hh hr hwf hwh
    | true => exact s57B2 hf hh hr hwf hwh
  ·cases hr : rightS f h with
   | false => exact s57A1 hf hh hr hwf
   | true => exact s57A2 hf hh hr hwf
end
end Go.VI
namespace Go.VI
attribute [local congr] AW_congr OW_congr DW_congr NW_congr VW_congr GW_congr PW_congr KW_congr ite_congr' GV_congr CV_congr KF_congr
def getO (t : Int) : HeldM → Option (List RunM)
 | [] => none
 | x :: hd => if t == x.1 then some x.2 else getO t hd
def putO (t : Int) (u : List RunM) : HeldM → HeldM
 | [] => [(t,u)]
 | x :: hd => if t == x.1 then (t,u) :: hd else x :: putO t u hd
theorem look_get (t : Int) : ∀ hd : HeldM,lookE (int t) (hd.map entC) = (getO t hd).map encR
 | [] => rfl
 | x :: hd => by
  show (if keyEq (int t) (int x.1) then some (encR x.2) else lookE (int t) (hd.map entC)) = _
  rw [look_get t hd,show keyEq (int t) (int x.1) = (t == x.1) from rfl]
  show _ = (if t == x.1 then some x.2 else getO t hd).map encR
  split <;> rfl
theorem put_put (t : Int) (u : List RunM) : ∀ hd : HeldM,putE (int t) (encR u) (hd.map entC) = (putO t u hd).map entC
 | [] => rfl
 | x :: hd => by
  show (if keyEq (int t) (int x.1) then (int t,encR u) :: hd.map entC else entC x :: putE (int t) (encR u) (hd.map entC)) = _
  rw [put_put t u hd,show keyEq (int t) (int x.1) = (t == x.1) from rfl]
  show _ = (if t == x.1 then (t,u) :: hd else x :: putO t u hd).map entC
  split <;> rfl
theorem put_keys {t : Int} {u : List RunM} : ∀ {hd : HeldM},(getO t hd).isSome = true → (putO t u hd).map (·.1) = hd.map (·.1)
 | [],h => by cases h
 | x :: hd,h => by
  unfold getO at h
  unfold putO
  cases e : (t == x.1) with
  | true =>
   have : t = x.1:=by simpa using e
   simp [this]
  | false =>
   rw [e] at h
   simp only [Bool.false_eq_true,if_false,List.map_cons] at h ⊢
   rw [put_keys h]
theorem put_new {t : Int} {u : List RunM} : ∀ {hd : HeldM},(getO t hd).isSome = false → putO t u hd = hd ++ [(t,u)] ∧ t ∉ hd.map (·.1)
 | [],h => ⟨rfl,by simp⟩
 | x :: hd,h => by
  unfold getO at h
  unfold putO
  cases e : (t == x.1) with
  | true => rw [e] at h; cases h
  | false =>
   rw [e] at h
   simp only [Bool.false_eq_true,if_false] at h ⊢
   obtain ⟨h1,h2⟩:=put_new (u:=u) h
   refine ⟨by rw [h1]; rfl,?_⟩
   rw [List.map_cons,List.mem_cons]
   have : t ≠ x.1:=by simpa using e
   exact fun q => q.elim this h2
theorem put_mem {t : Int} {u : List RunM} : ∀ {hd : HeldM} {y : Int × List RunM},y ∈ putO t u hd → y = (t,u) ∨ y ∈ hd
 | [],y,h => by simp [putO] at h; exact .inl h
 | x :: hd,y,h => by
  unfold putO at h
  split at h
  ·rcases List.mem_cons.1 h with rfl | h
   ·exact .inl rfl
   ·exact .inr (by simp [h])
  ·rcases List.mem_cons.1 h with rfl | h
   ·exact .inr (by simp)
   ·rcases put_mem h with h | h
    ·exact .inl h
    ·exact .inr (by simp [h])
theorem getO_mem {t : Int} : ∀ {hd : HeldM} {l : List RunM},getO t hd = some l → (t,l) ∈ hd
 | [],l,h => by cases h
 | x :: hd,l,h => by
  unfold getO at h
  cases e : (t == x.1) with
  | true =>
   rw [e] at h
   simp only [if_true,Option.some.injEq] at h
   have : t = x.1:=by simpa using e
   subst this h
   simp
  | false =>
   rw [e] at h
   simp only [Bool.false_eq_true,if_false] at h
   exact List.mem_cons.2 (.inr (getO_mem h))
theorem held_put {hd : HeldM} {bs : List Nat} {ck : Nat} (h : HeldH hd bs ck) (t : Int) {u : List RunM} (hu : rightM u = true) : HeldH (putO t u hd) (putB (getO t hd).isSome bs ck) (putC (getO t hd).isSome ck):=by
 cases e : (getO t hd).isSome with
 | true =>
  have hk:=put_keys (u:=u) e
  have hl : (putO t u hd).length = hd.length:=by have:=congrArg List.length hk; simpa using this
  refine ⟨by rw [hl]; exact h.len,h.nd,h.lt,by rw [hk]; exact h.keys,fun x hx => ?_⟩
  rcases put_mem hx with rfl | hx
  ·exact hu
  ·exact h.rg x hx
 | false =>
  obtain ⟨h1,h2⟩:=put_new (u:=u) e
  rw [h1]
  refine ⟨by simp [putB,h.len],?_,fun b hb => ?_,?_,fun x hx => ?_⟩
  ·show (bs ++ [ck]).Nodup
   rw [List.nodup_append]
   exact ⟨h.nd,by simp,fun b hb c hc q => by simp at hc; subst hc; subst q; have:=h.lt b hb; omega⟩
  ·show b < ck + 1
   rcases List.mem_append.1 (show b ∈ bs ++ [ck] from hb) with hb | hb
   ·have:=h.lt b hb; omega
   ·simp at hb; omega
  ·rw [List.map_append,List.nodup_append]
   exact ⟨h.keys,by simp,fun b hb c hc q => by simp at hc; subst hc; subst q; exact h2 hb⟩
  ·rcases List.mem_append.1 hx with hx | hx
   ·exact h.rg x hx
   ·simp at hx
    rw [hx]; exact hu
def badGive (p : PoolM) (t : Int) (x : RunM) : Bool:=decide (t < 0) || !rightM [x] || decide (x.1 < 2) || decide (endsM [x] > p.pages)
noncomputable def hitGive (p : PoolM) (x : RunM) : Bool:=meetM p.free [x] || meetM (unionSel (fun _ => true) p.held) [x]
noncomputable def giveE (p : PoolM) (t : Int) (x : RunM) : Int:=if badGive p t x then 1 else if hitGive p x then 110 else 0
noncomputable def giveU (p : PoolM) (t : Int) (x : RunM) : List RunM:=unionM ((getO t p.held).getD []) [x]
theorem frz_ro {K : Heap} {x : RunM} {b : Blk} {fz : Bool} {L : List Blk} : frz 23 (hx K (b :: .row fz 2 [runC x] :: L)) (.sl (K.next + 1) 0 1) = some (encR [x],hx K (b :: .row true 2 [runC x] :: L)) ∧ frz 22 (hx K (b :: .row fz 2 [runC x] :: L)) (.sl (K.next + 1) 0 1) = some (encR [x],hx K (b :: .row true 2 [runC x] :: L)):=by
 have hg : (hx K (b :: .row fz 2 [runC x] :: L)).get (K.next + 1) = some (.row fz 2 [runC x]):=hx_get _ _ 1
 have hs : (hx K (b :: .row fz 2 [runC x] :: L)).set (K.next + 1) (.row true 2 [runC x]) = hx K (b :: .row true 2 [runC x] :: L):=hx_set _ _ _ 1
 constructor
 ·rw [frz_sl,hg]
  cases fz with
  | true => rfl
  | false =>
   simp only [Bool.false_eq_true,if_false,hs]
   rfl
 ·rw [frz_sl,hg]
  cases fz with
  | true => rfl
  | false =>
   simp only [Bool.false_eq_true,if_false,hs]
   rfl
section
variable {K : Heap} {x : RunM} {b : Blk} {fz : Bool} {L : List Blk} {Q : AV → Heap → Prop}
theorem frz_o1 : frzCells (hx K (b :: .row fz 2 [runC x] :: L)) [.sl (K.next + 1) 0 1] = some ([encR [x]],hx K (b :: .row true 2 [runC x] :: L)):=by
 rw [frzCells_eq,frzL_cons,frz_ro.1]
 rfl
theorem frz_o2 (A : List RunM) : frzCells (hx K (b :: .row fz 2 [runC x] :: L)) [encR A,.sl (K.next + 1) 0 1] = some ([encR A,encR [x]],hx K (b :: .row true 2 [runC x] :: L)):=by
 rw [frzCells_eq,frzL_cons,show frz 23 (hx K (b :: .row fz 2 [runC x] :: L)) (encR A) = some (encR A,hx K (b :: .row fz 2 [runC x] :: L)) from rfl,Option.bind_some]
 simp only [frzL_cons,frz_ro.2,Option.bind_some]
 rfl
theorem k1_40 : KW ftB (.fn (.func 40) [] []) [.sl (K.next + 1) 0 1] (hx K (b :: .row fz 2 [runC x] :: L)) Q ↔ Q (boolA (rightM [x])) (hx K (b :: .row true 2 [runC x] :: L)):=kB_of rfl frz_o1 rfl (callL_sub ftM_sub (s40 [x] (by simp) Heap.empty))
theorem k1_43 : KW ftB (.fn (.func 43) [] []) [.sl (K.next + 1) 0 1] (hx K (b :: .row fz 2 [runC x] :: L)) Q ↔ Q (int (endsM [x])) (hx K (b :: .row true 2 [runC x] :: L)):=kB_of rfl frz_o1 rfl (callL_sub ftM_sub (s43 [x] (by simp) Heap.empty))
theorem k1_53 {A : List RunM} (hA : A.length ≤ 2000000) : KW ftB (.fn (.func 53) [] []) [encR A,.sl (K.next + 1) 0 1] (hx K (b :: .row fz 2 [runC x] :: L)) Q ↔ Q (boolA (meetM A [x])) (hx K (b :: .row true 2 [runC x] :: L)):=kB_of rfl (frz_o2 A) rfl (s53 A [x] hA (by simp) Heap.empty)
theorem k1_52 {A : List RunM} (hA : A.length ≤ 100000) : KW ftB (.fn (.func 52) [] []) [encR A,.sl (K.next + 1) 0 1] (hx K (b :: .row fz 2 [runC x] :: L)) Q ↔ Q (encR (unionM A [x])) (hx K (b :: .row true 2 [runC x] :: L)):=kB_of rfl (frz_o2 A) rfl (callL_sub ftM_sub (s52 A [x] hA (by simp) Heap.empty))
theorem k1_52n : KW ftB (.fn (.func 52) [] []) [.sc (.slice none 0 0),.sl (K.next + 1) 0 1] (hx K (b :: .row fz 2 [runC x] :: L)) Q ↔ Q (encR (unionM [] [x])) (hx K (b :: .row true 2 [runC x] :: L)):=by
 refine kB_of (as':=[encR [],encR [x]]) rfl ?_ rfl (callL_sub ftM_sub (s52 [] [x] (by simp) (by simp) Heap.empty))
 rw [frzCells_eq,frzL_cons,show frz 23 (hx K (b :: .row fz 2 [runC x] :: L)) (.sc (.slice none 0 0)) = some (encR [],hx K (b :: .row fz 2 [runC x] :: L)) from rfl,Option.bind_some]
 simp only [frzL_cons,frz_ro.2,Option.bind_some]
 rfl
end
section
variable {K : Heap} {pid mid : Nat} {p : PoolM} {bs : List Nat} {ck : Nat} (hp : PoolH K pid mid p bs ck) {t : Int} {x : RunM} {Q : AV → Heap → Prop}
include hp
theorem o64a (h1 : t < 0) (hq : ∀ fz,Q (int 1) (hx K [.box false (runC x),.row fz 2 [runC x]])) : KW ftB (.fn (.func 64) [] []) [.ptr pid 0 0,int t,.agg (runC x)] K Q:=by
 refine call_W rfl (by simp) ?_
 unfold c64 r64
 have q0:=fun L => get_old hp.box L
 have q1:=fun L => get_old hp.map L
 have hpl:=Heap.get_lt hp.box
 have ne1 : (K.next + 1 = pid) = False:=eq_false (by omega)
 have ne2 : (pid = K.next + 1) = False:=eq_false (by omega)
 have hl:=right_len hp.free
 have k40:=fun b fz L Q => @k1_40 K x b fz L Q
 have k43:=fun b fz L Q => @k1_43 K x b fz L Q
 have v40 : ∀ n,pureV ftB (.fn (.func 40) [] []) [.sl n 0 1] = some (true,[n]):=fun _ => rfl
 have v43 : ∀ n,pureV ftB (.fn (.func 43) [] []) [.sl n 0 1] = some (true,[n]):=fun _ => rfl
 have d1 : (t < 0) = True:=eq_true h1
 simp only [runC,int,boolA] at k40 k43 hq
 simp only [↓vp,vz,Nat.reduceLT,Nat.reduceEqDiff,Nat.reduceLeDiff,Nat.reduceAdd,Nat.reduceSub,Nat.reduceMul,Int.reduceBEq,Int.reduceBNe,Int.reduceLT,Int.reduceLE,Int.reduceEq,reduceIte,reduceCtorEq,da,int,boolA,dr,rw,runC,q0,k40,k43,v40,v43,ne1,ne2,d1]
 exact hq _
theorem o64b (h1 : ¬ t < 0) (h2 : rightM [x] = false) (hq : ∀ fz,Q (int 1) (hx K [.box false (runC x),.row fz 2 [runC x]])) : KW ftB (.fn (.func 64) [] []) [.ptr pid 0 0,int t,.agg (runC x)] K Q:=by
 refine call_W rfl (by simp) ?_
 unfold c64 r64
 have q0:=fun L => get_old hp.box L
 have q1:=fun L => get_old hp.map L
 have hpl:=Heap.get_lt hp.box
 have ne1 : (K.next + 1 = pid) = False:=eq_false (by omega)
 have ne2 : (pid = K.next + 1) = False:=eq_false (by omega)
 have hl:=right_len hp.free
 have k40:=fun b fz L Q => @k1_40 K x b fz L Q
 have k43:=fun b fz L Q => @k1_43 K x b fz L Q
 have v40 : ∀ n,pureV ftB (.fn (.func 40) [] []) [.sl n 0 1] = some (true,[n]):=fun _ => rfl
 have v43 : ∀ n,pureV ftB (.fn (.func 43) [] []) [.sl n 0 1] = some (true,[n]):=fun _ => rfl
 have d1 : (t < 0) = False:=eq_false h1
 rw [h2] at k40
 simp only [runC,int,boolA] at k40 k43 hq
 simp only [↓vp,vz,Nat.reduceLT,Nat.reduceEqDiff,Nat.reduceLeDiff,Nat.reduceAdd,Nat.reduceSub,Nat.reduceMul,Int.reduceBEq,Int.reduceBNe,Int.reduceLT,Int.reduceLE,Int.reduceEq,reduceIte,reduceCtorEq,da,int,boolA,dr,rw,runC,q0,k40,k43,v40,v43,ne1,ne2,d1]
 exact hq _
theorem o64c (h1 : ¬ t < 0) (h2 : rightM [x] = true) (h3 : x.1 < 2) (hq : ∀ fz,Q (int 1) (hx K [.box false (runC x),.row fz 2 [runC x]])) : KW ftB (.fn (.func 64) [] []) [.ptr pid 0 0,int t,.agg (runC x)] K Q:=by
 refine call_W rfl (by simp) ?_
 unfold c64 r64
 have q0:=fun L => get_old hp.box L
 have q1:=fun L => get_old hp.map L
 have hpl:=Heap.get_lt hp.box
 have ne1 : (K.next + 1 = pid) = False:=eq_false (by omega)
 have ne2 : (pid = K.next + 1) = False:=eq_false (by omega)
 have hl:=right_len hp.free
 have k40:=fun b fz L Q => @k1_40 K x b fz L Q
 have k43:=fun b fz L Q => @k1_43 K x b fz L Q
 have v40 : ∀ n,pureV ftB (.fn (.func 40) [] []) [.sl n 0 1] = some (true,[n]):=fun _ => rfl
 have v43 : ∀ n,pureV ftB (.fn (.func 43) [] []) [.sl n 0 1] = some (true,[n]):=fun _ => rfl
 have d1 : (t < 0) = False:=eq_false h1
 rw [h2] at k40
 have d3 : (x.1 < 2) = True:=eq_true h3
 simp only [runC,int,boolA] at k40 k43 hq
 simp only [↓vp,vz,Nat.reduceLT,Nat.reduceEqDiff,Nat.reduceLeDiff,Nat.reduceAdd,Nat.reduceSub,Nat.reduceMul,Int.reduceBEq,Int.reduceBNe,Int.reduceLT,Int.reduceLE,Int.reduceEq,reduceIte,reduceCtorEq,da,int,boolA,dr,rw,runC,q0,k40,k43,v40,v43,ne1,ne2,d1,d3]
 exact hq _
theorem o64d (h1 : ¬ t < 0) (h2 : rightM [x] = true) (h3 : ¬ x.1 < 2) (h4 : endsM [x] > p.pages) (hq : ∀ fz,Q (int 1) (hx K [.box false (runC x),.row fz 2 [runC x]])) : KW ftB (.fn (.func 64) [] []) [.ptr pid 0 0,int t,.agg (runC x)] K Q:=by
 refine call_W rfl (by simp) ?_
 unfold c64 r64
 have q0:=fun L => get_old hp.box L
 have q1:=fun L => get_old hp.map L
 have hpl:=Heap.get_lt hp.box
 have ne1 : (K.next + 1 = pid) = False:=eq_false (by omega)
 have ne2 : (pid = K.next + 1) = False:=eq_false (by omega)
 have hl:=right_len hp.free
 have k40:=fun b fz L Q => @k1_40 K x b fz L Q
 have k43:=fun b fz L Q => @k1_43 K x b fz L Q
 have v40 : ∀ n,pureV ftB (.fn (.func 40) [] []) [.sl n 0 1] = some (true,[n]):=fun _ => rfl
 have v43 : ∀ n,pureV ftB (.fn (.func 43) [] []) [.sl n 0 1] = some (true,[n]):=fun _ => rfl
 have d1 : (t < 0) = False:=eq_false h1
 rw [h2] at k40
 have d3 : (x.1 < 2) = False:=eq_false h3
 have d4 : (endsM [x] > p.pages) = True:=eq_true h4
 have d4' : (p.pages < endsM [x]) = True:=eq_true h4
 simp only [runC,int,boolA] at k40 k43 hq
 simp only [↓vp,vz,Nat.reduceLT,Nat.reduceEqDiff,Nat.reduceLeDiff,Nat.reduceAdd,Nat.reduceSub,Nat.reduceMul,Int.reduceBEq,Int.reduceBNe,Int.reduceLT,Int.reduceLE,Int.reduceEq,reduceIte,reduceCtorEq,da,int,boolA,dr,rw,runC,q0,k40,k43,v40,v43,ne1,ne2,d1,d3,d4,d4']
 exact hq _
theorem o64e (h1 : ¬ t < 0) (h2 : rightM [x] = true) (h3 : ¬ x.1 < 2) (h4 : ¬ endsM [x] > p.pages) (h5 : meetM p.free [x] = true) (hq : Q (int 110) (hx K [.box false (runC x),.row true 2 [runC x]])) : KW ftB (.fn (.func 64) [] []) [.ptr pid 0 0,int t,.agg (runC x)] K Q:=by
 refine call_W rfl (by simp) ?_
 unfold c64 r64
 have q0:=fun L => get_old hp.box L
 have q1:=fun L => get_old hp.map L
 have hpl:=Heap.get_lt hp.box
 have hml:=Heap.get_lt hp.map
 have ne1 : (K.next + 1 = pid) = False:=eq_false (by omega)
 have ne2 : (pid = K.next + 1) = False:=eq_false (by omega)
 have hl:=right_len hp.free
 have hu:=unionSel_ok (fun _ => true) p.held
 have hul:=right_len hu.1
 have k40:=fun b fz L Q => @k1_40 K x b fz L Q
 have k43:=fun b fz L Q => @k1_43 K x b fz L Q
 have k53f:=fun b fz L Q => @k1_53 K x b fz L Q p.free (by omega)
 have k53h:=fun b fz L Q => @k1_53 K x b fz L Q (unionSel (fun _ => true) p.held) (by omega)
 have k63:=fun L Q => @o63 (hx K L) pid mid p bs ck (pool_hx hp L) Q
 have v40 : ∀ n,pureV ftB (.fn (.func 40) [] []) [.sl n 0 1] = some (true,[n]):=fun _ => rfl
 have v43 : ∀ n,pureV ftB (.fn (.func 43) [] []) [.sl n 0 1] = some (true,[n]):=fun _ => rfl
 have d1 : (t < 0) = False:=eq_false h1
 have d3 : (x.1 < 2) = False:=eq_false h3
 have d4 : (endsM [x] > p.pages) = False:=eq_false h4
 have d4' : (p.pages < endsM [x]) = False:=eq_false h4
 rw [h2] at k40
 rw [h5] at k53f
 simp only [runC,int,boolA] at k40 k43 k53f k53h hq
 simp only [↓vp,vz,Nat.reduceLT,Nat.reduceEqDiff,Nat.reduceLeDiff,Nat.reduceAdd,Nat.reduceSub,Nat.reduceMul,Int.reduceBEq,Int.reduceBNe,Int.reduceLT,Int.reduceLE,Int.reduceEq,reduceIte,reduceCtorEq,da,int,boolA,dr,rw,runC,q0,k40,k43,k53f,k53h,k63,hx_hx,v40,v43,ne1,ne2,d1,d3,d4,d4']
 exact hq
theorem o64f (h1 : ¬ t < 0) (h2 : rightM [x] = true) (h3 : ¬ x.1 < 2) (h4 : ¬ endsM [x] > p.pages) (h5 : meetM p.free [x] = false) (h6 : meetM (unionSel (fun _ => true) p.held) [x] = true) (hq : Q (int 110) (hx K [.box false (runC x),.row true 2 [runC x],.dead])) : KW ftB (.fn (.func 64) [] []) [.ptr pid 0 0,int t,.agg (runC x)] K Q:=by
 refine call_W rfl (by simp) ?_
 unfold c64 r64
 have q0:=fun L => get_old hp.box L
 have q1:=fun L => get_old hp.map L
 have hpl:=Heap.get_lt hp.box
 have hml:=Heap.get_lt hp.map
 have ne1 : (K.next + 1 = pid) = False:=eq_false (by omega)
 have ne2 : (pid = K.next + 1) = False:=eq_false (by omega)
 have hl:=right_len hp.free
 have hu:=unionSel_ok (fun _ => true) p.held
 have hul:=right_len hu.1
 have k40:=fun b fz L Q => @k1_40 K x b fz L Q
 have k43:=fun b fz L Q => @k1_43 K x b fz L Q
 have k53f:=fun b fz L Q => @k1_53 K x b fz L Q p.free (by omega)
 have k53h:=fun b fz L Q => @k1_53 K x b fz L Q (unionSel (fun _ => true) p.held) (by omega)
 have k63:=fun L Q => @o63 (hx K L) pid mid p bs ck (pool_hx hp L) Q
 have v40 : ∀ n,pureV ftB (.fn (.func 40) [] []) [.sl n 0 1] = some (true,[n]):=fun _ => rfl
 have v43 : ∀ n,pureV ftB (.fn (.func 43) [] []) [.sl n 0 1] = some (true,[n]):=fun _ => rfl
 have d1 : (t < 0) = False:=eq_false h1
 have d3 : (x.1 < 2) = False:=eq_false h3
 have d4 : (endsM [x] > p.pages) = False:=eq_false h4
 have d4' : (p.pages < endsM [x]) = False:=eq_false h4
 rw [h2] at k40
 rw [h5] at k53f
 rw [h6] at k53h
 simp only [runC,int,boolA] at k40 k43 k53f k53h hq
 simp only [↓vp,vz,Nat.reduceLT,Nat.reduceEqDiff,Nat.reduceLeDiff,Nat.reduceAdd,Nat.reduceSub,Nat.reduceMul,Int.reduceBEq,Int.reduceBNe,Int.reduceLT,Int.reduceLE,Int.reduceEq,reduceIte,reduceCtorEq,da,int,boolA,dr,rw,runC,q0,k40,k43,k53f,k53h,k63,hx_hx,v40,v43,ne1,ne2,d1,d3,d4,d4']
 exact hq
theorem o64g (h1 : ¬ t < 0) (h2 : rightM [x] = true) (h3 : ¬ x.1 < 2) (h4 : ¬ endsM [x] > p.pages) (h5 : meetM p.free [x] = false) (h6 : meetM (unionSel (fun _ => true) p.held) [x] = false)
  (hq : Q (int 0) (hx (K.set mid (.mpb (some .i64) ((putO t (giveU p t x) p.held).map entC) (putB (getO t p.held).isSome bs ck) (putC (getO t p.held).isSome ck))) [.box false (runC x),.row true 2 [runC x],.dead])) : KW ftB (.fn (.func 64) [] []) [.ptr pid 0 0,int t,.agg (runC x)] K Q:=by
 refine call_W rfl (by simp) ?_
 unfold c64 r64
 have q0:=fun L => get_old hp.box L
 have q1:=fun L => get_old hp.map L
 have hpl:=Heap.get_lt hp.box
 have hml:=Heap.get_lt hp.map
 have ne1 : (K.next + 1 = pid) = False:=eq_false (by omega)
 have ne2 : (pid = K.next + 1) = False:=eq_false (by omega)
 have hl:=right_len hp.free
 have hu:=unionSel_ok (fun _ => true) p.held
 have hul:=right_len hu.1
 have k40:=fun b fz L Q => @k1_40 K x b fz L Q
 have k43:=fun b fz L Q => @k1_43 K x b fz L Q
 have k53f:=fun b fz L Q => @k1_53 K x b fz L Q p.free (by omega)
 have k53h:=fun b fz L Q => @k1_53 K x b fz L Q (unionSel (fun _ => true) p.held) (by omega)
 have k63:=fun L Q => @o63 (hx K L) pid mid p bs ck (pool_hx hp L) Q
 have v40 : ∀ n,pureV ftB (.fn (.func 40) [] []) [.sl n 0 1] = some (true,[n]):=fun _ => rfl
 have v43 : ∀ n,pureV ftB (.fn (.func 43) [] []) [.sl n 0 1] = some (true,[n]):=fun _ => rfl
 have d1 : (t < 0) = False:=eq_false h1
 have d3 : (x.1 < 2) = False:=eq_false h3
 have d4 : (endsM [x] > p.pages) = False:=eq_false h4
 have d4' : (p.pages < endsM [x]) = False:=eq_false h4
 rw [h2] at k40
 rw [h5] at k53f
 rw [h6] at k53h
 have lk:=look_get t p.held
 have pp:=fun u => put_put t u p.held
 have gs : ∀ L b,(hx K L).set mid b = hx (K.set mid b) L:=fun L b => hx_set_old K L b mid hml
 have k52n:=fun b fz L Q => @k1_52n K x b fz L Q
 have v52 : ∀ n A,pureV ftB (.fn (.func 52) [] []) [encR A,.sl n 0 1] = some (true,[n]):=fun _ _ => rfl
 have v52n : ∀ n,pureV ftB (.fn (.func 52) [] []) [.sc (.slice none 0 0),.sl n 0 1] = some (true,[n]):=fun _ => rfl
 unfold giveU at hq
 cases hg : getO t p.held with
 | none =>
  rw [hg] at lk hq
  simp only [Option.map_none,Option.getD_none,Option.isSome_none] at lk hq
  simp only [runC,int,boolA] at k40 k43 k53f k53h k52n lk pp hq
  simp only [↓vp,vz,Nat.reduceLT,Nat.reduceEqDiff,Nat.reduceLeDiff,Nat.reduceAdd,Nat.reduceSub,Nat.reduceMul,Int.reduceBEq,Int.reduceBNe,Int.reduceLT,Int.reduceLE,Int.reduceEq,reduceIte,reduceCtorEq,da,int,boolA,dr,rw,runC,q0,k40,k43,k53f,k53h,k63,hx_hx,v40,v43,ne1,ne2,d1,d3,d4,d4',q1,keyOk,lk,pp,gs,k52n,v52n,Option.getD_none,Option.isSome_none]
  exact hq
 | some l =>
  have hll:=right_len (hp.hd.rg _ (getO_mem hg))
  have k52:=fun b fz L Q => @k1_52 K x b fz L Q l (by simp only at hll; omega)
  rw [hg] at lk hq
  simp only [Option.map_some,Option.getD_some,Option.isSome_some] at lk hq
  simp only [runC,int,boolA] at k40 k43 k53f k53h k52 lk pp hq
  simp only [↓vp,vz,Nat.reduceLT,Nat.reduceEqDiff,Nat.reduceLeDiff,Nat.reduceAdd,Nat.reduceSub,Nat.reduceMul,Int.reduceBEq,Int.reduceBNe,Int.reduceLT,Int.reduceLE,Int.reduceEq,reduceIte,reduceCtorEq,da,int,boolA,dr,rw,runC,q0,k40,k43,k53f,k53h,k63,hx_hx,v40,v43,ne1,ne2,d1,d3,d4,d4',q1,keyOk,lk,pp,gs,k52,v52,Option.getD_some,Option.isSome_some]
  exact hq
end
end Go.VI
namespace Go.VI
attribute [local congr] AW_congr OW_congr DW_congr NW_congr VW_congr GW_congr PW_congr KW_congr ite_congr' GV_congr CV_congr KF_congr
noncomputable def giveP (p : PoolM) (t : Int) (x : RunM) : PoolM:=if giveE p t x = 0 then { p with held:=putO t (giveU p t x) p.held } else p
theorem frame_hx {pid mid : Nat} (K : Heap) (L : List Blk) : PFrame pid mid K (hx K L):=⟨by rw [hx_next]; omega,fun j hj _ _ => hx_get_old _ _ _ hj⟩
theorem frame_set {pid mid : Nat} (K : Heap) (b : Blk) (L : List Blk) : PFrame pid mid K (hx (K.set mid b) L):=⟨by rw [hx_next,Heap.next_set]; omega,fun j hj _ h2 => by rw [hx_get_old _ _ _ (by rw [Heap.next_set]; exact hj),Heap.get_set_ne _ h2]⟩
theorem PFrame.trans {pid mid : Nat} {K K' K'' : Heap} (h : PFrame pid mid K K') (h' : PFrame pid mid K' K'') : PFrame pid mid K K'':=⟨Nat.le_trans h.le h'.le,fun j hj h1 h2 => (h'.eq j (Nat.lt_of_lt_of_le hj h.le) h1 h2).trans (h.eq j hj h1 h2)⟩
section
variable {K : Heap} {pid mid : Nat} {p : PoolM} {bs : List Nat} {ck : Nat} (hp : PoolH K pid mid p bs ck) {t : Int} {x : RunM} {Q : AV → Heap → Prop}
include hp
theorem o64 (hq : ∀ K' bs' ck',PoolH K' pid mid (giveP p t x) bs' ck' → PFrame pid mid K K' → Q (int (giveE p t x)) K') : KW ftB (.fn (.func 64) [] []) [.ptr pid 0 0,int t,.agg (runC x)] K Q:=by
 have fail : ∀ {e : Int} (h0 : e ≠ 0) (he : giveE p t x = e) (L : List Blk),Q (int e) (hx K L):=fun h0 he L => by
  have h1 : giveP p t x = p:=by unfold giveP; rw [if_neg (by rw [he]; exact h0)]
  rw [← he]
  exact hq _ bs ck (by rw [h1]; exact pool_hx hp L) (frame_hx K L)
 by_cases h1 : t < 0
 ·have he : giveE p t x = 1:=by unfold giveE badGive; rw [decide_eq_true h1]; rfl
  exact o64a hp h1 fun fz => fail (by decide) he _
 cases h2 : rightM [x] with
 | false =>
  have he : giveE p t x = 1:=by unfold giveE badGive; rw [h2]; simp
  exact o64b hp h1 h2 fun fz => fail (by decide) he _
 | true =>
  by_cases h3 : x.1 < 2
  ·have he : giveE p t x = 1:=by unfold giveE badGive; rw [decide_eq_true h3]; simp
   exact o64c hp h1 h2 h3 fun fz => fail (by decide) he _
  by_cases h4 : endsM [x] > p.pages
  ·have he : giveE p t x = 1:=by unfold giveE badGive; rw [decide_eq_true h4]; simp
   exact o64d hp h1 h2 h3 h4 fun fz => fail (by decide) he _
  have hb : badGive p t x = false:=by unfold badGive; rw [decide_eq_false h1,h2,decide_eq_false h3,decide_eq_false h4]; rfl
  cases h5 : meetM p.free [x] with
  | true =>
   have he : giveE p t x = 110:=by unfold giveE hitGive; rw [hb,h5]; rfl
   exact o64e hp h1 h2 h3 h4 h5 (fail (by decide) he _)
  | false =>
   cases h6 : meetM (unionSel (fun _ => true) p.held) [x] with
   | true =>
    have he : giveE p t x = 110:=by unfold giveE hitGive; rw [hb,h5,h6]; rfl
    exact o64f hp h1 h2 h3 h4 h5 h6 (fail (by decide) he _)
   | false =>
    have he : giveE p t x = 0:=by unfold giveE hitGive; rw [hb,h5,h6]; rfl
    have hP : giveP p t x = { p with held:=putO t (giveU p t x) p.held }:=by unfold giveP; rw [if_pos he]
    refine o64g hp h1 h2 h3 h4 h5 h6 ?_
    rw [← he]
    have hml:=Heap.get_lt hp.map
    have hne:=pool_ne hp
    refine hq _ (putB (getO t p.held).isSome bs ck) (putC (getO t p.held).isSome ck) ?_ (frame_set K _ _)
    rw [hP]
    refine pool_hx (p:={ p with held:=putO t (giveU p t x) p.held }) ⟨?_,?_,?_,hp.free⟩ _
    ·rw [Heap.get_set_ne _ hne]
     exact hp.box
    ·rw [Heap.get_set_self _ hml]
    ·exact held_put hp.hd t (unionM_ok _ _).1
theorem o73 : KW ftB (.fn (.func 73) [] []) [.ptr pid 0 0] K Q ↔ Q (.ptr K.next 0 0) (hx K [boxP p (K.next + 1),.mpb (some .i64) (p.held.map entC) bs ck,.dead]) :=
 KW_of (callU_prim (p:=copyP) rfl (copyP_at hp) (by rw [hx_next]; omega))
end
section
variable {K : Heap} {pid mid : Nat} {p : PoolM} {bs : List Nat} {ck : Nat} (hp : PoolH K pid mid p bs ck) {t : Int} {Q : AV → Heap → Prop}
include hp
theorem o74 : KW ftB (.fn (.func 74) [] []) [.ptr pid 0 0,int t] K Q ↔ Q (.agg [encR (unionM p.free (unionSel (fun k => k != t) p.held)),encR ((getO t p.held).getD [])]) (hx K [.box false [int t],.box false [encR (unionM p.free (unionSel (fun k => k != t) p.held)),encR ((getO t p.held).getD [])],.dead]):=by
 refine KW_of (call_o rfl (by simp) ?_)
 unfold c74 r74 RetO
 have q0:=fun L => get_old hp.box L
 have q1:=fun L => get_old hp.map L
 have hpl:=Heap.get_lt hp.box
 have hml:=Heap.get_lt hp.map
 have hl:=right_len hp.free
 have hu:=unionSel_ok (fun k => k != t) p.held
 have hul:=right_len hu.1
 have k120 : ∀ b L Q,KW ftB (.fn (.func 120) [] []) [.ptr pid 0 0,.fn (.func 133) [] [.ptr K.next 0 0]] (hx K (.box false [.sc (.int .i64 t)] :: b :: L)) Q ↔ Q (encR (unionSel (fun k => k != t) p.held)) (hx (hx K (.box false [.sc (.int .i64 t)] :: b :: L)) [.dead]):=fun b L Q =>
  KW_of (callU_prim (p:=unionP) rfl (unionP_at (pool_hx hp _) (test3 (fz:=false) (x:=t) (hx_get0 _ _) (by rw [hx_next]; simp)) rfl) (by rw [hx_next (hx K _)]; omega))
 have k52:=fun H Q => @kB52 H Q p.free (unionSel (fun k => k != t) p.held) (by omega) (by omega)
 have v52 : ∀ a b : List RunM,pureV ftB (.fn (.func 52) [] []) [encR a,encR b] = some (false,[]):=fun _ _ => rfl
 have lk:=look_get t p.held
 have G1 : ∀ a b L,(hx K (a :: b :: L)).get (K.next + 1) = some b:=fun a b L => hx_get _ _ 1
 have G0 : ∀ a L,(hx K (a :: L)).get K.next = some a:=fun a L => hx_get0 _ _
 have S1 : ∀ a b L b',(hx K (a :: b :: L)).set (K.next + 1) b' = hx K (a :: b' :: L):=fun a b L b' => hx_set _ _ _ 1
 cases hg : getO t p.held with
 | none =>
  rw [hg] at lk
  have k111 : ∀ H Q,KW ftB (.fn (.func 111) [] []) [.sc (.slice none 0 0)] H Q ↔ Q (encR []) H:=fun H Q => KW_of (call_pprim (as':=[encR []]) (p:=cloF 2 16) rfl rfl rfl)
  have v111 : pureV ftB (.fn (.func 111) [] []) [.sc (.slice none 0 0)] = some (false,[]):=rfl
  simp only [Option.map_none,int] at lk
  simp only [↓vp,vz,Nat.reduceLT,Nat.reduceEqDiff,Nat.reduceLeDiff,Nat.reduceAdd,Nat.reduceSub,Nat.reduceMul,Int.reduceBEq,Int.reduceBNe,Int.reduceLT,Int.reduceLE,Int.reduceEq,reduceIte,reduceCtorEq,da,int,boolA,dr,q0,q1,k120,hx_hx,k52,v52,keyOk,lk,k111,v111,G0,G1,S1,Option.getD_none,resultsA,resC,resT,resN]
  try rfl
 | some l =>
  have hll:=right_len (hp.hd.rg _ (getO_mem hg))
  rw [hg] at lk
  have k111:=fun H Q => @kB111 H Q l (by simp only at hll; omega)
  have v111 : pureV ftB (.fn (.func 111) [] []) [encR l] = some (false,[]):=rfl
  simp only [Option.map_some,int] at lk
  simp only [↓vp,vz,Nat.reduceLT,Nat.reduceEqDiff,Nat.reduceLeDiff,Nat.reduceAdd,Nat.reduceSub,Nat.reduceMul,Int.reduceBEq,Int.reduceBNe,Int.reduceLT,Int.reduceLE,Int.reduceEq,reduceIte,reduceCtorEq,da,int,boolA,dr,q0,q1,k120,hx_hx,k52,v52,keyOk,lk,k111,v111,G0,G1,S1,Option.getD_some,resultsA,resC,resT,resN]
  try rfl
end
noncomputable def settleP (p : PoolM) (x o : Int) : PoolM:={ p with free:=unionM p.free (unionSel (oldB x o) p.held),held:=p.held.filter fun y => !oldB x o y.1 }
section
variable {K : Heap} {pid mid : Nat} {p : PoolM} {bs : List Nat} {ck : Nat} (hp : PoolH K pid mid p bs ck) {x o : Int} {Q : AV → Heap → Prop}
include hp
theorem o65 (hq : ∀ K' bs',PoolH K' pid mid (settleP p x o) bs' ck → PFrame pid mid K K' → Q (.tup []) K') : KW ftB (.fn (.func 65) [] []) [.ptr pid 0 0,int x,int o] K Q:=by
 refine call_W rfl (by simp) ?_
 unfold c65 r65
 have q0:=fun L => get_old hp.box L
 have hpl:=Heap.get_lt hp.box
 have hml:=Heap.get_lt hp.map
 have hne:=pool_ne hp
 have hl:=right_len hp.free
 have hu:=unionSel_ok (oldB x o) p.held
 have hul:=right_len hu.1
 have G0 : ∀ (K : Heap) a L,(hx K (a :: L)).get K.next = some a:=fun K a L => hx_get0 _ _
 have G1 : ∀ (K : Heap) a b L,(hx K (a :: b :: L)).get (K.next + 1) = some b:=fun K a b L => hx_get _ _ 1
 have G2 : ∀ (K : Heap) a b c L,(hx K (a :: b :: c :: L)).get (K.next + 2) = some c:=fun K a b c L => hx_get _ _ 2
 have S2 : ∀ a b c L c',(hx K (a :: b :: c :: L)).set (K.next + 2) c' = hx K (a :: b :: c' :: L):=fun a b c L c' => hx_set _ _ _ 2
 have gs : ∀ L b,(hx K L).set pid b = hx (K.set pid b) L:=fun L b => hx_set_old K L b pid hpl
 have k120 : ∀ Q,KW ftB (.fn (.func 120) [] []) [.ptr pid 0 0,.fn (.func 122) [] [.ptr K.next 0 0,.ptr (K.next + 1) 0 0]] (hx K [.box false [.sc (.int .i64 x)],.box false [.sc (.int .i64 o)],.box false [.fn (.func 122) [] [.ptr K.next 0 0,.ptr (K.next + 1) 0 0]]]) Q ↔
   Q (encR (unionSel (oldB x o) p.held)) (hx (hx K [.box false [.sc (.int .i64 x)],.box false [.sc (.int .i64 o)],.box false [.fn (.func 122) [] [.ptr K.next 0 0,.ptr (K.next + 1) 0 0]]]) [.dead]):=fun Q =>
  KW_of (callU_prim (p:=unionP) rfl (unionP_at (pool_hx hp _) (test2 (fz:=false) (fz':=false) (x:=x) (o:=o) (G0 _ _ _) (G1 _ _ _ _) (by omega) (by rw [hx_next]; simp) (by rw [hx_next]; simp)) rfl) (by rw [hx_next (hx K _)]; omega))
 have k52:=fun H Q => @kB52 H Q p.free (unionSel (oldB x o) p.held) (by omega) (by omega)
 have v52 : ∀ a b : List RunM,pureV ftB (.fn (.func 52) [] []) [encR a,encR b] = some (false,[]):=fun _ _ => rfl
 have v120 : ∀ args,pureV ftB (.fn (.func 120) [] []) args = none:=fun _ => rfl
 have v120t : ∀ args,pureV ftB (.tup [.fn (.func 120) [] []]) args = none:=fun _ => rfl
 have xf : ∀ q,exFQ (none : FP).isSome q = q:=fun q => by cases q <;> rfl
 have sg : ∀ L L' : List Blk,((hx K L').get pid = (hx K L).get pid) = True:=fun L L' => eq_true (by rw [q0,q0])
 have hf' : boxP (settleP p x o) mid = .box false [.sc (.int .i64 p.pages),.sc (.int .i64 p.limit),encR (unionM p.free (unionSel (oldB x o) p.held)),.mp mid]:=rfl
 have hKb : ∀ L,(hx (K.set pid (boxP (settleP p x o) mid)) L).get pid = some (boxP (settleP p x o) mid):=fun L => get_old (Heap.get_set_self _ hpl) L
 have hKm : (K.set pid (boxP (settleP p x o) mid)).get mid = some (.mpb (some .i64) (p.held.map entC) bs ck):=by rw [Heap.get_set_ne _ (Ne.symm hne)]; exact hp.map
 have hKn : (K.set pid (boxP (settleP p x o) mid)).next = K.next:=Heap.next_set _ _ _
 have k123 : ∀ Q,KW ftB (.fn (.func 123) [] []) [.mp mid,.fn (.func 124) [] [.ptr (K.next + 2) 0 0]] (hx (K.set pid (boxP (settleP p x o) mid)) [.box false [.sc (.int .i64 x)],.box false [.sc (.int .i64 o)],.box false [.fn (.func 122) [] [.ptr K.next 0 0,.ptr (K.next + 1) 0 0]],.dead]) Q ↔
   Q (.tup []) (hx ((hx (K.set pid (boxP (settleP p x o) mid)) [.box false [.sc (.int .i64 x)],.box false [.sc (.int .i64 o)],.box false [.fn (.func 122) [] [.ptr K.next 0 0,.ptr (K.next + 1) 0 0]],.dead]).set mid (mapB ((p.held.zip bs).filter fun z => !oldB x o z.1.1) ck)) [.dead]):=fun Q => by
  have t4:=test4 (B:=(hx (K.set pid (boxP (settleP p x o) mid)) [.box false [.sc (.int .i64 x)],.box false [.sc (.int .i64 o)],.box false [.fn (.func 122) [] [.ptr K.next 0 0,.ptr (K.next + 1) 0 0]],.dead]).next) (b:=K.next) (b':=K.next + 1) (c:=K.next + 2) (mid:=mid) (x:=x) (o:=o)
   (H:=hx (K.set pid (boxP (settleP p x o) mid)) [.box false [.sc (.int .i64 x)],.box false [.sc (.int .i64 o)],.box false [.fn (.func 122) [] [.ptr K.next 0 0,.ptr (K.next + 1) 0 0]],.dead])
   (by have:=G0 (K.set pid (boxP (settleP p x o) mid)); rw [hKn] at this; exact this _ _) (by have:=G1 (K.set pid (boxP (settleP p x o) mid)); rw [hKn] at this; exact this _ _ _) (by have:=G2 (K.set pid (boxP (settleP p x o) mid)); rw [hKn] at this; exact this _ _ _ _) (by omega) (by omega) (by omega)
   (by rw [hx_next,hKn]; simp) (by rw [hx_next,hKn]; simp) (by rw [hx_next,hKn]; simp) (by omega) (by omega) (by omega)
  exact KW_of (callU_prim (p:=delP') rfl (delP'_at (get_old hKm _) hp.hd t4 rfl) (by rw [hx_next _ [Blk.dead],Heap.next_set]; omega))
 rw [hf'] at hKb k123 hKm
 simp only [↓vp,vz,Nat.reduceLT,Nat.reduceEqDiff,Nat.reduceLeDiff,Nat.reduceAdd,Nat.reduceSub,Nat.reduceMul,Int.reduceBEq,Int.reduceBNe,Int.reduceLT,Int.reduceLE,Int.reduceEq,reduceIte,reduceCtorEq,da,int,boolA,dr,rw,q0,G2,S2,k120,hx_hx,k52,v52,v120,v120t,mkFQ_n,compat_al,compat_la,sameAt1,sg,xf,gs,hKb,k123]
 rw [← hf'] at hKm ⊢
 refine hq _ (((p.held.zip bs).filter fun z => !oldB x o z.1.1).map (·.2)) ?_ ?_
 ·refine pool_hx (p:=settleP p x o) ⟨?_,?_,?_,?_⟩ _
  ·rw [Heap.get_set_ne _ hne]
   exact get_old (Heap.get_set_self _ hpl) _
  ·rw [(held_filter hp.hd fun k => !oldB x o k).2,Heap.get_set_self _ (by rw [hx_next,hKn]; omega)]
   rfl
  ·exact (held_filter hp.hd fun k => !oldB x o k).1
  ·exact (unionM_ok _ _).1
 ·refine ⟨by rw [hx_next,Heap.next_set,hx_next,hKn]; omega,fun j hj h1 h2 => ?_⟩
  rw [hx_get_old _ _ _ (by rw [Heap.next_set,hx_next,hKn]; omega),Heap.get_set_ne _ h2,hx_get_old _ _ _ (by rw [hKn]; exact hj),Heap.get_set_ne _ h1]
end
end Go.VI
namespace Go.VI
attribute [local congr] AW_congr OW_congr DW_congr NW_congr VW_congr GW_congr PW_congr KW_congr ite_congr' GV_congr CV_congr KF_congr
def growP (p : PoolM) (n : Int) : PoolM × Int × Int :=
 if n < 1 then (p,0,1) else if n > p.limit - p.pages then (p,0,12) else ({ p with pages:=p.pages + n },p.pages,0)
section
variable {K : Heap} {pid mid : Nat} {p : PoolM} {bs : List Nat} {ck : Nat} (hp : PoolH K pid mid p bs ck) {Q : AV → Heap → Prop}
include hp
theorem s72a {n : Int} (h : n < 1) : callL ftB (.fn (.func 72) [] []) [.ptr pid 0 0,int n] K = some (.tup [int 0,int 1],K):=by
 have _q:=hp
 refine call_o rfl (by simp) ?_
 unfold c72 r72 RetO
 have d1 : (n < 1) = True:=eq_true h
 simp only [↓vp,vz,Nat.reduceLT,Nat.reduceEqDiff,Nat.reduceLeDiff,Nat.reduceAdd,Nat.reduceSub,Nat.reduceMul,Int.reduceBEq,Int.reduceBNe,Int.reduceLT,Int.reduceLE,Int.reduceEq,reduceIte,reduceCtorEq,da,int,boolA,d1,resultsA,resT,resN]
 exact hx_nil K
theorem s72b {n : Int} (h : ¬ n < 1) (ho : PoolOk p) (hf : n > p.limit - p.pages) : callL ftB (.fn (.func 72) [] []) [.ptr pid 0 0,int n] K = some (.tup [int 0,int 12],K):=by
 refine call_o rfl (by simp) ?_
 unfold c72 r72 RetO
 have d1 : (n < 1) = False:=eq_false h
 have q0:=fun L => get_old hp.box L
 have w2 : IntKind.i64.wrap (p.limit - p.pages) = p.limit - p.pages:=wrap_i64 (by have:=ho.le; have:=ho.hi; have:=ho.lo; omega)
 have d2 : (n > p.limit - p.pages) = True:=eq_true hf
 have d3 : (p.limit - p.pages < n) = True:=eq_true hf
 simp only [↓vp,vz,Nat.reduceLT,Nat.reduceEqDiff,Nat.reduceLeDiff,Nat.reduceAdd,Nat.reduceSub,Nat.reduceMul,Int.reduceBEq,Int.reduceBNe,Int.reduceLT,Int.reduceLE,Int.reduceEq,reduceIte,reduceCtorEq,da,int,boolA,dr,d1,q0,w2,d2,d3,resultsA,resT,resN]
 exact hx_nil _
theorem s72c {n : Int} (h : ¬ n < 1) (ho : PoolOk p) (hf : ¬ n > p.limit - p.pages) : callL ftB (.fn (.func 72) [] []) [.ptr pid 0 0,int n] K = some (.tup [int p.pages,int 0],K.set pid (boxP { p with pages:=p.pages + n } mid)):=by
 refine call_o rfl (by simp) ?_
 unfold c72 r72 RetO
 have d1 : (n < 1) = False:=eq_false h
 have q0:=fun L => get_old hp.box L
 have lid:=Heap.get_lt hp.box
 have w2 : IntKind.i64.wrap (p.limit - p.pages) = p.limit - p.pages:=wrap_i64 (by have:=ho.le; have:=ho.hi; have:=ho.lo; omega)
 have w3 : IntKind.i64.wrap (p.pages + n) = p.pages + n:=wrap_i64 (by have:=ho.le; have:=ho.hi; have:=ho.lo; omega)
 have w4 : IntKind.i64.wrap (p.pages + n - n) = p.pages:=by rw [wrap_i64 (by have:=ho.le; have:=ho.hi; have:=ho.lo; omega)]; omega
 have d2 : (n > p.limit - p.pages) = False:=eq_false hf
 have d3 : (p.limit - p.pages < n) = False:=eq_false hf
 have gs : ∀ L b,(hx K L).set pid b = hx (K.set pid b) L:=fun L b => hx_set_old K L b pid lid
 have gg : ∀ L b,(hx (K.set pid b) L).get pid = some b:=fun L b => get_old (Heap.get_set_self _ lid) L
 simp only [↓vp,vz,Nat.reduceLT,Nat.reduceEqDiff,Nat.reduceLeDiff,Nat.reduceAdd,Nat.reduceSub,Nat.reduceMul,Int.reduceBEq,Int.reduceBNe,Int.reduceLT,Int.reduceLE,Int.reduceEq,reduceIte,reduceCtorEq,da,int,boolA,dr,d1,q0,w2,w3,w4,d2,d3,gs,gg,resultsA,resT,resN]
 exact hx_nil _
theorem o72 {n : Int} (ho : PoolOk p) : KW ftB (.fn (.func 72) [] []) [.ptr pid 0 0,int n] K Q ↔ Q (.tup [int (growP p n).2.1,int (growP p n).2.2]) (K.set pid (boxP (growP p n).1 mid)):=by
 refine KW_of ?_
 unfold growP
 by_cases h1 : n < 1
 ·rw [if_pos h1,box_same hp]
  exact s72a hp h1
 rw [if_neg h1]
 by_cases h3 : n > p.limit - p.pages
 ·rw [if_pos h3,box_same hp]
  exact s72b hp h1 ho h3
 ·rw [if_neg h3]
  exact s72c hp h1 ho h3
theorem pool_put {p' : PoolM} (hh : p'.held = p.held) (hf : rightM p'.free = true) : PoolH (K.set pid (boxP p' mid)) pid mid p' bs ck:=by
 refine ⟨Heap.get_set_self _ (Heap.get_lt hp.box),?_,by rw [hh]; exact hp.hd,hf⟩
 rw [Heap.get_set_ne _ (Ne.symm (pool_ne hp)),hh]
 exact hp.map
end
theorem union_l {l : List RunM} (h : rightM l = true) : unionM [] l = l:=by
 have:=unionM_ok [] l
 refine right_ext this.1 h fun p => ?_
 rw [this.2,clean_of h]
 rfl
end Go.VI
namespace Go.VI
attribute [local congr] AW_congr OW_congr DW_congr NW_congr VW_congr GW_congr PW_congr KW_congr ite_congr' GV_congr CV_congr KF_congr
section
variable {K : Heap} {Q : AV → Heap → Prop}
theorem kn43 {H : Heap} : KW ftB (.fn (.func 43) [] []) [.sc (.slice none 0 0)] H Q ↔ Q (int 0) H:=kB_of (as':=[encR []]) rfl rfl rfl (callL_sub ftM_sub (s43 [] (by simp) Heap.empty))
theorem kn111 {H : Heap} : KW ftB (.fn (.func 111) [] []) [.sc (.slice none 0 0)] H Q ↔ Q (encR []) H:=KW_of (call_pprim (as':=[encR []]) (p:=cloF 2 16) rfl rfl rfl)
theorem call_pz118 {A : AV} {H : Heap} (hz : frzCells H [A] = some ([.agg [encR [(5,2)],encR []]],H)) : callL ftB (.fn (.func 118) [] []) [A] H = some (boolA true,H):=by
 refine call_p (as':=[.agg [encR [(5,2)],encR []]]) rfl hz (by simp) ?_
 unfold c118 r118
 have k0:=fun K L Q => @KW_of ftB _ _ _ Q _ _ (s166 [(5,2)] (by simp) (hx K L))
 have k1:=fun K L Q => @KW_of ftB _ _ _ Q _ _ (s166 [] (by simp) (hx K L))
 have k3:=fun H Q => @kB53 H Q [(5,2)] [] (by simp) (by simp)
 rw [show mayS [(5,2)] = true by decide] at k0
 rw [show mayS [] = true by decide] at k1
 rw [show meetM [(5,2)] [] = false by decide] at k3
 simp only [↓vp,vz,Nat.reduceLT,Nat.reduceEqDiff,Nat.reduceLeDiff,Nat.reduceAdd,Nat.reduceSub,Nat.reduceMul,Int.reduceBEq,Int.reduceBNe,Int.reduceLT,Int.reduceLE,Int.reduceEq,reduceIte,reduceCtorEq,da,int,boolA,rt,dr,k0,k1,k3,Bool.true_and,Bool.and_true]
theorem frz1 {id : Nat} {x : RunM} (hg : K.get id = some (.row true 2 [runC x])) (n : Nat) : frz (n + 1) K (.sl id 0 1) = some (encR [x],K):=by
 rw [frz_sl,hg]
 rfl
theorem frz1c {id : Nat} {x : RunM} (hg : K.get id = some (.row true 2 [runC x])) : frzCells K [.sl id 0 1] = some ([encR [x]],K):=by
 rw [frzCells_eq,frzL_cons,frz1 hg]
 rfl
theorem frz1f {id : Nat} {x : RunM} (hg : K.get id = some (.row false 2 [runC x])) : frzCells K [.sl id 0 1] = some ([encR [x]],K.set id (.row true 2 [runC x])):=by
 rw [frzCells_eq,frzL_cons,frz_sl,hg]
 rfl
theorem frz1a {id : Nat} {x : RunM} (hg : K.get id = some (.row true 2 [runC x])) : frzCells K [.agg [.sl id 0 1,.sc (.slice none 0 0)]] = some ([.agg [encR [x],encR []]],K):=by
 rw [frzCells_eq,frzL_cons,frz_agg,frzL_cons,frz1 hg]
 rfl
theorem k1w {k : Nat} {id : Nat} {x : RunM} {v : AV} {H2 : Heap} (hg : K.get id = some (.row true 2 [runC x])) (hk : ftB k = some (.pprim (goP ftM k))) (h : callL ftM (.fn (.func k) [] []) [encR [x]] Heap.empty = some (v,H2)) : KW ftB (.fn (.func k) [] []) [.sl id 0 1] K Q ↔ Q v K:=kB_of hk (frz1c hg) rfl h
theorem k1f {k : Nat} {id : Nat} {x : RunM} {v : AV} {H2 : Heap} (hg : K.get id = some (.row false 2 [runC x])) (hk : ftB k = some (.pprim (goP ftM k))) (h : callL ftM (.fn (.func k) [] []) [encR [x]] Heap.empty = some (v,H2)) : KW ftB (.fn (.func k) [] []) [.sl id 0 1] K Q ↔ Q v (K.set id (.row true 2 [runC x])):=kB_of hk (frz1f hg) rfl h
end
def X52 : RunM:=(5,2)
theorem s57a {K : Heap} {id : Nat} (hg : K.get id = some (.row false 2 [runC X52])) : callL ftB (.fn (.func 57) [] []) [.agg [.sl id 0 1,.sc (.slice none 0 0)],int 1,int 8,int 20] K =
  some (.tup [.ptr (K.next + 2) 0 0,int 0],hx (K.set id (.row true 2 [runC X52])) [.box false [.sl id 0 1,.sc (.slice none 0 0)],.mpb (some .i64) [entC (1,[])] [0] 1,boxP (newP [X52] [] 1 8 20) (K.next + 1)]):=by
 refine call_o rfl (by simp) ?_
 unfold c57 r57 RetO
 have hid:=Heap.get_lt hg
 have gt:=fun L => get_old (Heap.get_set_self (.row true 2 [runC X52]) hid) L
 have gf:=fun L => get_old hg L
 have gs : ∀ L b,(hx K L).set id b = hx (K.set id b) L:=fun L b => hx_set_old K L b id hid
 have nx : (K.set id (.row true 2 [runC X52])).next = K.next:=Heap.next_set _ _ _
 have v1 : pureV ftB (.fn (.func 111) [] []) [.sc (.slice none 0 0)] = some (false,[]):=rfl
 have v2 : pureV ftB (.fn (.func 111) [] []) [.sl id 0 1] = some (true,[id]):=rfl
 have k43:=fun H Q => @kn43 Q H
 have k43f:=fun L Q => @k1f (hx K L) Q 43 id X52 _ _ (gf L) rfl (callL_sub ftM_sub (s43 [X52] (by simp) Heap.empty))
 have k43t:=fun L Q => @k1w (hx (K.set id (.row true 2 [runC X52])) L) Q 43 id X52 _ _ (gt L) rfl (callL_sub ftM_sub (s43 [X52] (by simp) Heap.empty))
 have k118 : ∀ L Q,KW ftB (.fn (.func 118) [] []) [.agg [.sl id 0 1,.sc (.slice none 0 0)]] (hx (K.set id (.row true 2 [runC X52])) L) Q ↔ Q (boolA true) (hx (K.set id (.row true 2 [runC X52])) L):=fun L Q =>
  KW_of (call_pz118 (frz1a (gt L)))
 have k111:=fun H Q => @kn111 Q H
 have k111t : ∀ L Q,KW ftB (.fn (.func 111) [] []) [.sl id 0 1] (hx (K.set id (.row true 2 [runC X52])) L) Q ↔ Q (encR [X52]) (hx (K.set id (.row true 2 [runC X52])) L):=fun L Q =>
  KW_of (call_pprim (as':=[encR [X52]]) (p:=cloF 2 16) rfl (frz1c (gt L)) rfl)
 rw [show endsM [X52] = 7 by decide] at k43f k43t
 simp only [int,boolA,gs] at k43 k43f k43t k118
 have ne1 : (id = K.next) = False:=eq_false (by omega)
 have ne2 : (K.next = id) = False:=eq_false (by omega)
 have ne3 : (id = K.next + 1) = False:=eq_false (by omega)
 have ne4 : (K.next + 1 = id) = False:=eq_false (by omega)
 have ne5 : (id = K.next + 1 + 1) = False:=eq_false (by omega)
 have ne6 : (K.next + 1 + 1 = id) = False:=eq_false (by omega)
 simp only [↓vp,vz,Nat.reduceLT,Nat.reduceEqDiff,Nat.reduceLeDiff,Nat.reduceAdd,Nat.reduceSub,Nat.reduceMul,Int.reduceBEq,Int.reduceBNe,Int.reduceLT,Int.reduceLE,Int.reduceEq,reduceIte,reduceCtorEq,da,int,boolA,dr,k43,k43f,k43t,k118,k111,k111t,v1,v2,keyOk,nx,ne1,ne2,ne3,ne4,ne5,ne6,resultsA,resT,resN]
 rfl
def A0 : PoolM:=⟨8,20,[(5,2)],[(1,[])]⟩
def A1 : PoolM:=⟨8,20,[],[(1,[])]⟩
def A2 : PoolM:=⟨9,20,[],[(1,[])]⟩
def A3 : PoolM:=⟨9,20,[],[(1,[]),(3,[(5,2)])]⟩
def A4 : PoolM:=⟨9,20,[(5,2)],[]⟩
theorem A_all2 : unionSel (fun _ => true) A2.held = []:=by
 show unionM [] [] = []
 exact union_l rfl
theorem A_all3 : unionSel (fun _ => true) A3.held = [(5,2)]:=by
 show unionM (unionM [] []) [(5,2)] = [(5,2)]
 rw [union_l rfl,union_l rfl]
theorem A_old3 : unionSel (oldB 5 9) A3.held = [(5,2)]:=by
 show unionM (unionM [] []) [(5,2)] = [(5,2)]
 rw [union_l rfl,union_l rfl]
theorem A_g3 : giveE A2 3 (5,2) = 0 ∧ giveP A2 3 (5,2) = A3:=by
 have h : giveE A2 3 (5,2) = 0:=by
  unfold giveE hitGive
  rw [A_all2,show badGive A2 3 (5,2) = false by decide,show meetM A2.free [(5,2)] = false by decide,show meetM [] [(5,2)] = false by decide]
  rfl
 refine ⟨h,?_⟩
 unfold giveP
 rw [if_pos h]
 unfold giveU
 rw [show ((getO 3 A2.held).getD []) = [] by decide,union_l (by decide)]
 rfl
theorem A_g4 : giveE A3 4 (6,1) = 110 ∧ giveP A3 4 (6,1) = A3:=by
 have h : giveE A3 4 (6,1) = 110:=by
  unfold giveE hitGive
  rw [A_all3,show badGive A3 4 (6,1) = false by decide,show meetM A3.free [(6,1)] = false by decide,show meetM [(5,2)] [(6,1)] = true by decide]
  rfl
 refine ⟨h,?_⟩
 unfold giveP
 rw [if_neg (by rw [h]; decide)]
theorem A_s : settleP A3 5 9 = A4:=by
 unfold settleP
 rw [A_old3,show A3.free = [] from rfl,union_l (by decide)]
 rfl
theorem A_ok0 : PoolOk A0:=⟨by decide,by decide,by decide,by decide,by decide⟩
theorem A_ok1 : PoolOk A1:=⟨by decide,by decide,by decide,by decide,by decide⟩
theorem s56 (H : Heap) : callL ftB (.fn (.func 56) [] []) [] H = some (boolA true,H):=by
 refine call_p (as':=[]) rfl rfl (by simp) ?_
 unfold c56 r56
 have k57 : ∀ Q,KW ftB (.fn (.func 57) [] []) [.agg [.sl 0 0 1,.sc (.slice none 0 0)],int 1,int 8,int 20] (hx Heap.empty [.row false 2 [runC X52]]) Q ↔ _:=fun Q => KW_of (s57a (id:=0) rfl)
 simp only [runC,X52,int] at k57
 have n1 : ∀ i,isnilA 1 (.ptr i 0 0) = some false:=fun _ => rfl
 simp only [↓vp,vz,Nat.reduceLT,Nat.reduceEqDiff,Nat.reduceLeDiff,Nat.reduceAdd,Nat.reduceSub,Nat.reduceMul,Int.reduceBEq,Int.reduceBNe,Int.reduceLT,Int.reduceLE,Int.reduceEq,reduceIte,reduceCtorEq,da,int,boolA,rt,dr,k57,show Heap.empty.next = 0 from rfl]
 generalize hK : hx (hx Heap.empty [_]) _ = K0
 have h0 : PoolH K0 3 2 A0 [0] 1:=by
  subst hK
  exact ⟨rfl,rfl,⟨rfl,by decide,by decide,by decide,by decide⟩,by decide⟩
 clear hK k57
 obtain ⟨K1,h1,k61a⟩ : ∃ K1,PoolH K1 3 2 A1 [0] 1 ∧ ∀ Q,(KW ftB (.fn (.func 61) [] []) [.ptr 3 0 0,.sc (.int .i64 2)] (hx K0 []) Q ↔ Q (.tup [.sc (.int .i64 5),.sc (.int .i64 0)]) (hx K1 [])):=⟨_,pool_put h0 (p':=A1) rfl rfl,fun Q => by rw [hx_nil,hx_nil]; exact o61 h0 A_ok0 2⟩
 obtain ⟨K2,h2,k61b⟩ : ∃ K2,PoolH K2 3 2 A2 [0] 1 ∧ ∀ Q,(KW ftB (.fn (.func 61) [] []) [.ptr 3 0 0,.sc (.int .i64 1)] (hx K1 []) Q ↔ Q (.tup [.sc (.int .i64 8),.sc (.int .i64 0)]) (hx K2 [])):=⟨_,pool_put h1 (p':=A2) rfl rfl,fun Q => by rw [hx_nil,hx_nil]; exact o61 h1 A_ok1 1⟩
 rw [← hx_nil K0]
 simp only [↓vp,vz,Nat.reduceLT,Nat.reduceEqDiff,Nat.reduceLeDiff,Nat.reduceAdd,Nat.reduceSub,Nat.reduceMul,Int.reduceBEq,Int.reduceBNe,Int.reduceLT,Int.reduceLE,Int.reduceEq,reduceIte,reduceCtorEq,da,int,boolA,rt,dr,n1,k61a,k61b]
 rw [hx_nil]
 refine o64 h2 (x:=(5,2)) fun K3 b3 c3 h3 f3 => ?_
 rw [A_g3.2] at h3
 rw [A_g3.1,← hx_nil K3]
 simp only [↓vp,vz,Nat.reduceLT,Nat.reduceEqDiff,Nat.reduceLeDiff,Nat.reduceAdd,Nat.reduceSub,Nat.reduceMul,Int.reduceBEq,Int.reduceBNe,Int.reduceLT,Int.reduceLE,Int.reduceEq,reduceIte,reduceCtorEq,da,int,boolA,rt,dr,n1]
 rw [hx_nil]
 refine o64 h3 (x:=(6,1)) fun K4 b4 c4 h4 f4 => ?_
 rw [A_g4.2] at h4
 rw [A_g4.1,← hx_nil K4]
 have k73 : ∀ Q,KW ftB (.fn (.func 73) [] []) [.ptr 3 0 0] (hx K4 []) Q ↔ Q (.ptr K4.next 0 0) (hx K4 [boxP A3 (K4.next + 1),.mpb (some .i64) (A3.held.map entC) b4 c4,.dead]):=fun Q => by rw [hx_nil]; exact o73 h4
 simp only [↓vp,vz,Nat.reduceLT,Nat.reduceEqDiff,Nat.reduceLeDiff,Nat.reduceAdd,Nat.reduceSub,Nat.reduceMul,Int.reduceBEq,Int.reduceBNe,Int.reduceLT,Int.reduceLE,Int.reduceEq,reduceIte,reduceCtorEq,da,int,boolA,rt,dr,n1,k73]
 have h5:=pool_hx h4 [boxP A3 (K4.next + 1),.mpb (some .i64) (A3.held.map entC) b4 c4,.dead]
 have q5 : PoolH (hx K4 [boxP A3 (K4.next + 1),.mpb (some .i64) (A3.held.map entC) b4 c4,.dead]) K4.next (K4.next + 1) A3 b4 c4:=⟨hx_get0 _ _,hx_get _ _ 1,h4.hd,h4.free⟩
 refine o65 h5 fun K6 b6 h6 f6 => ?_
 rw [A_s] at h6
 have e3:=Heap.get_lt h4.box
 have e2:=Heap.get_lt h4.map
 have e5:=hx_next K4 [boxP A3 (K4.next + 1),.mpb (some .i64) (A3.held.map entC) b4 c4,.dead]
 simp only [List.length_cons,List.length_nil] at e5
 have q6 : PoolH K6 K4.next (K4.next + 1) A3 b4 c4:=⟨by rw [f6.eq _ (by omega) (by omega) (by omega)]; exact q5.box,by rw [f6.eq _ (by omega) (by omega) (by omega)]; exact q5.map,h4.hd,h4.free⟩
 have k59:=fun L Q => @o59 (hx K6 L) 3 2 A4 b6 c4 (pool_hx h6 L) Q
 have k60:=fun L Q => @o60 (hx K6 L) 3 2 A4 b6 c4 (pool_hx h6 L) Q
 have k63:=fun L Q => @o63 (hx K6 L) 3 2 A4 b6 c4 (pool_hx h6 L) Q
 have j63:=fun L Q => @o63 (hx K6 L) K4.next (K4.next + 1) A3 b4 c4 (pool_hx q6 L) Q
 have j74:=fun L Q => @o74 (hx K6 L) K4.next (K4.next + 1) A3 b4 c4 (pool_hx q6 L) 3 Q
 have k42a:=fun H Q => @kB42 H Q [(5,2)] (by simp)
 have k42b:=fun H Q => @kB42 H Q [] (by simp)
 rw [show countM [(5,2)] = 2 by decide] at k42a
 rw [show countM [] = 0 by decide] at k42b
 rw [A_all3] at j63
 rw [show unionSel (fun _ => true) A4.held = [] from rfl] at k63
 rw [show (getO 3 A3.held).getD [] = [(5,2)] by decide] at j74
 rw [← hx_nil K6]
 simp only [int,boolA,A4] at k59 k60 k63 j63 j74 k42a k42b
 simp only [↓vp,vz,Nat.reduceLT,Nat.reduceEqDiff,Nat.reduceLeDiff,Nat.reduceAdd,Nat.reduceSub,Nat.reduceMul,Int.reduceBEq,Int.reduceBNe,Int.reduceLT,Int.reduceLE,Int.reduceEq,reduceIte,reduceCtorEq,da,int,boolA,rt,dr,n1,k59,k60,k63,j63,j74,k42a,k42b,hx_hx]
end Go.VI
namespace Go.VI
attribute [local congr] AW_congr OW_congr DW_congr NW_congr VW_congr GW_congr PW_congr KW_congr ite_congr' GV_congr CV_congr KF_congr
theorem get2n {K : Heap} {x y z : Blk} {n : Nat} (h : n = K.next + 2) : (hx K [x,y,z]).get n = some z:=by rw [h]; exact hx_get _ _ 2
theorem l62 (l : List RunM) (hl : l.length ≤ 2000000) {Q : AExit → Env → Heap → Prop}
   (hex : ∀ f' K S, Rep K 2 S (l.map runC) → f' 3 = S → Q (.exit 0) (mkE 18 f') (hx K [])) :
   ∀ (d i : Nat) (S : AV) (K : Heap) (f : Nat → AV), i + d = l.length → Rep K 2 S ((l.take i).map runC) → f 3 = S → f 6 = encR l → f 7 = int l.length → f 8 = int i →
    AW ftB (.loop c62L0) (mkE 18 f) (hx K []) Q := by
  intro d
  induction d with
  | zero =>
    intro i S K f hd hr h3 h6 h7 h8
    have g : ((i : Int) < l.length) = False := by simp; omega
    rw [AW_loop]
    unfold c62L0
    rw [List.take_of_length_le (by omega)] at hr
    simp only [↓vp, vz, Nat.reduceLT, Nat.reduceEqDiff, Nat.reduceLeDiff, Nat.reduceAdd, Nat.reduceSub, Nat.reduceMul, Int.reduceBEq, Int.reduceBNe, Int.reduceLT, Int.reduceLE, Int.reduceEq, reduceIte, reduceCtorEq, da, int, boolA, h7, h8, g]
    refine hex _ K S hr ?_
    simp only [↓vp, vz, Nat.reduceLT, Nat.reduceEqDiff, Nat.reduceLeDiff, Nat.reduceAdd, Nat.reduceSub, Nat.reduceMul, Int.reduceBEq, Int.reduceBNe, Int.reduceLT, Int.reduceLE, Int.reduceEq, reduceIte, reduceCtorEq, da, int, boolA, h3]
  | succ d ih =>
    intro i S K f hd hr h3 h6 h7 h8
    have g1 : ((i : Int) < l.length) = True := by simp; omega
    have gi : i < l.length := by omega
    have w1 := wrap_succ (show i < 9223372036854775807 by omega)
    have ht := rep_take runC gi
    have hlen : ((l.take i).map runC).length = i := by simp; omega
    have ap := fun nid L => appA_rep (nid := nid) (bytes := 16) hr (xs := [runC l[i]]) (by simp) rfl (by rw [hlen]; simp; omega) L
    rw [hlen] at ap
    simp only [runC, int, List.length_singleton] at ap
    rw [AW_loop]
    unfold c62L0
    simp only [↓vp, vz, Nat.reduceLT, Nat.reduceEqDiff, Nat.reduceLeDiff, Nat.reduceAdd, Nat.reduceSub, Nat.reduceMul, Int.reduceBEq, Int.reduceBNe, Int.reduceLT, Int.reduceLE, Int.reduceEq, reduceIte, reduceCtorEq, da, int, boolA, dr, h3, h6, h7, h8, g1, atR gi, cR gi, runC, ap, kill_next, w1]
    rw [← hx_nil (hx _ _)]
    refine ih (i + 1) (.sl (K.next + 2) 0 (i + 1)) _ _ (by omega) (.inr ⟨K.next + 2, ?_, ?_⟩) ?_ ?_ ?_ ?_
    · rw [ht, List.length_append, hlen]
      rfl
    · rw [ht]
      simp only [↓vp, vz, Nat.reduceLT, Nat.reduceEqDiff, Nat.reduceLeDiff, Nat.reduceAdd, Nat.reduceSub, Nat.reduceMul, Int.reduceBEq, Int.reduceBNe, Int.reduceLT, Int.reduceLE, Int.reduceEq, reduceIte, reduceCtorEq, kill_next]
      rfl
    all_goals simp only [↓vp, vz, Nat.reduceLT, Nat.reduceEqDiff, Nat.reduceLeDiff, Nat.reduceAdd, Nat.reduceSub, Nat.reduceMul, Int.reduceBEq, Int.reduceBNe, Int.reduceLT, Int.reduceLE, Int.reduceEq, reduceIte, reduceCtorEq, da, int, boolA, h6, h7]
theorem s62 (l : List RunM) (hl : l.length ≤ 2000000) (H : Heap) : callL ftB (.fn (.func 62) [] []) [encR l] H = some (encR l,H):=by
 refine call_p (as':=[encR l]) rfl rfl (by simp) ?_
 unfold c62 r62
 simp only [↓vp,vz,Nat.reduceLT,Nat.reduceEqDiff,Nat.reduceLeDiff,Nat.reduceAdd,Nat.reduceSub,Nat.reduceMul,Int.reduceBEq,Int.reduceBNe,Int.reduceLT,Int.reduceLE,Int.reduceEq,reduceIte,reduceCtorEq,da,int,boolA,dr]
 rw [← hx_nil (Heap.empty)]
 refine l62 l hl (fun f' K S hr h3 => ?_) l.length 0 (.sc (.slice none 0 0)) _ _ (by simp) (.inl ⟨rfl,by simp⟩) ?_ ?_ ?_ ?_
 ·unfold c62R1
  obtain ⟨K',hz⟩:=frz_rep (L:=[]) (by rw [hx_nil]; exact hr) 23
  simp only [↓vp,vz,Nat.reduceLT,Nat.reduceEqDiff,Nat.reduceLeDiff,Nat.reduceAdd,Nat.reduceSub,Nat.reduceMul,Int.reduceBEq,Int.reduceBNe,Int.reduceLT,Int.reduceLE,Int.reduceEq,reduceIte,reduceCtorEq,h3]
  refine ret1 rfl (by decide) ?_
  simp only [↓vp,vz,Nat.reduceLT,Nat.reduceEqDiff,Nat.reduceLeDiff,Nat.reduceAdd,Nat.reduceSub,Nat.reduceMul,Int.reduceBEq,Int.reduceBNe,Int.reduceLT,Int.reduceLE,Int.reduceEq,reduceIte,reduceCtorEq]
  exact ⟨K',hz⟩
 all_goals first | rfl | (simp only [↓vp,vz,Nat.reduceLT,Nat.reduceEqDiff,Nat.reduceLeDiff,Nat.reduceAdd,Nat.reduceSub,Nat.reduceMul,Int.reduceBEq,Int.reduceBNe,Int.reduceLT,Int.reduceLE,Int.reduceEq,reduceIte,reduceCtorEq,da,int,boolA]; done)
theorem l58a (l : List RunM) (hl : l.length ≤ 2000000) (O : AV) (B : Nat) (K0 : Heap) (hB : 3 ≤ B) {Q : AExit → Env → Heap → Prop}
   (hex : ∀ f' K S, RepB B K 2 S (l.map runC) → B ≤ K.next → K.get 2 = some (.box false [S, O]) → (∀ j, j < B → j ≠ 2 → K.get j = K0.get j) → f' 1 = .ptr 0 0 0 → f' 2 = .ptr 1 0 0 → f' 3 = .ptr 2 0 0 → Q (.exit 0) (mkE 37 f') (hx K [])) :
   ∀ (d i : Nat) (S : AV) (K : Heap) (f : Nat → AV), i + d = l.length → RepB B K 2 S ((l.take i).map runC) → B ≤ K.next → K.get 2 = some (.box false [S, O]) → (∀ j, j < B → j ≠ 2 → K.get j = K0.get j) → f 1 = .ptr 0 0 0 → f 2 = .ptr 1 0 0 → f 3 = .ptr 2 0 0 → f 9 = encR l → f 10 = int l.length → f 11 = int i →
    AW ftB (.loop c58L0) (mkE 37 f) (hx K []) Q := by
  intro d
  induction d with
  | zero =>
    intro i S K f hd hr hn h2 hk e1 e2 e3 ea eb ed
    have g : ((i : Int) < l.length) = False := by simp; omega
    rw [AW_loop]
    unfold c58L0
    rw [List.take_of_length_le (by omega)] at hr
    simp only [↓vp, vz, Nat.reduceLT, Nat.reduceEqDiff, Nat.reduceLeDiff, Nat.reduceAdd, Nat.reduceSub, Nat.reduceMul, Int.reduceBEq, Int.reduceBNe, Int.reduceLT, Int.reduceLE, Int.reduceEq, reduceIte, reduceCtorEq, da, int, boolA, eb, ed, g]
    refine hex _ K S hr hn h2 hk ?_ ?_ ?_
    all_goals simp only [↓vp, vz, Nat.reduceLT, Nat.reduceEqDiff, Nat.reduceLeDiff, Nat.reduceAdd, Nat.reduceSub, Nat.reduceMul, Int.reduceBEq, Int.reduceBNe, Int.reduceLT, Int.reduceLE, Int.reduceEq, reduceIte, reduceCtorEq, da, int, boolA, e1, e2, e3]
  | succ d ih =>
    intro i S K f hd hr hn h2 hk e1 e2 e3 ea eb ed
    have g1 : ((i : Int) < l.length) = True := by simp; omega
    have gi : i < l.length := by omega
    have w1 := wrap_succ (show i < 9223372036854775807 by omega)
    have ht := rep_take runC gi
    have hlen : ((l.take i).map runC).length = i := by simp; omega
    have ap := fun nid L => appA_rep (nid := nid) (bytes := 16) hr.rep (xs := [runC l[i]]) (by simp) rfl (by rw [hlen]; simp; omega) L
    have c0 := fun H => @atR H l i gi
    have c1 := fun H off n => @cR H l i off n gi
    rw [hlen] at ap
    simp only [runC, int, List.length_singleton] at ap c1
    have hs := hr.kill
    have k2 : (kill K S).get 2 = some (.box false [S, O]) := by rw [hs.2 2 (by omega), h2]
    have l2 := Heap.get_lt k2
    have q2 := fun L => get_old k2 L
    have q2' := fun L => get_old h2 L
    have gs : ∀ L b, (hx (kill K S) L).set 2 b = hx ((kill K S).set 2 b) L := fun L b => hx_set_old _ L b 2 l2
    rw [AW_loop]
    unfold c58L0
    simp only [↓vp, vz, Nat.reduceLT, Nat.reduceEqDiff, Nat.reduceLeDiff, Nat.reduceAdd, Nat.reduceSub, Nat.reduceMul, Int.reduceBEq, Int.reduceBNe, Int.reduceLT, Int.reduceLE, Int.reduceEq, reduceIte, reduceCtorEq, da, int, boolA, dr, e1, e2, e3, ea, eb, ed, g1, c0, c1, runC, ap, kill_next, w1, q2, q2', gs]
    rw [← hx_nil (hx _ _)]
    refine ih (i + 1) (.sl (K.next + 2) 0 (i + 1)) _ _ (by omega) (.inr ⟨K.next + 2, by omega, ?_, ?_⟩) ?_ ?_ (fun j hj hj2 => ?_) ?_ ?_ ?_ ?_ ?_ ?_
    · rw [ht, List.length_append, hlen]
      rfl
    · rw [ht]
      exact get2n (by rw [Heap.next_set, kill_next])
    · rw [hx_next, Heap.next_set, kill_next]; omega
    · exact get_old (Heap.get_set_self _ l2) _
    · rw [hx_get_old _ _ _ (by rw [Heap.next_set, kill_next]; omega), Heap.get_set_ne _ hj2, hs.2 j hj, hk j hj hj2]
    all_goals simp only [↓vp, vz, Nat.reduceLT, Nat.reduceEqDiff, Nat.reduceLeDiff, Nat.reduceAdd, Nat.reduceSub, Nat.reduceMul, Int.reduceBEq, Int.reduceBNe, Int.reduceLT, Int.reduceLE, Int.reduceEq, reduceIte, reduceCtorEq, da, int, boolA, e1, e2, e3, ea, eb]
theorem l58b (l : List RunM) (hl : l.length ≤ 2000000) (O : AV) (B : Nat) (K0 : Heap) (hB : 3 ≤ B) {Q : AExit → Env → Heap → Prop}
   (hex : ∀ f' K S, RepB B K 2 S (l.map runC) → B ≤ K.next → K.get 2 = some (.box false [O, S]) → (∀ j, j < B → j ≠ 2 → K.get j = K0.get j) → f' 1 = .ptr 0 0 0 → f' 2 = .ptr 1 0 0 → f' 3 = .ptr 2 0 0 → Q (.exit 2) (mkE 37 f') (hx K [])) :
   ∀ (d i : Nat) (S : AV) (K : Heap) (f : Nat → AV), i + d = l.length → RepB B K 2 S ((l.take i).map runC) → B ≤ K.next → K.get 2 = some (.box false [O, S]) → (∀ j, j < B → j ≠ 2 → K.get j = K0.get j) → f 1 = .ptr 0 0 0 → f 2 = .ptr 1 0 0 → f 3 = .ptr 2 0 0 → f 23 = encR l → f 24 = int l.length → f 25 = int i →
    AW ftB (.loop c58L1) (mkE 37 f) (hx K []) Q := by
  intro d
  induction d with
  | zero =>
    intro i S K f hd hr hn h2 hk e1 e2 e3 ea eb ed
    have g : ((i : Int) < l.length) = False := by simp; omega
    rw [AW_loop]
    unfold c58L1
    rw [List.take_of_length_le (by omega)] at hr
    simp only [↓vp, vz, Nat.reduceLT, Nat.reduceEqDiff, Nat.reduceLeDiff, Nat.reduceAdd, Nat.reduceSub, Nat.reduceMul, Int.reduceBEq, Int.reduceBNe, Int.reduceLT, Int.reduceLE, Int.reduceEq, reduceIte, reduceCtorEq, da, int, boolA, eb, ed, g]
    refine hex _ K S hr hn h2 hk ?_ ?_ ?_
    all_goals simp only [↓vp, vz, Nat.reduceLT, Nat.reduceEqDiff, Nat.reduceLeDiff, Nat.reduceAdd, Nat.reduceSub, Nat.reduceMul, Int.reduceBEq, Int.reduceBNe, Int.reduceLT, Int.reduceLE, Int.reduceEq, reduceIte, reduceCtorEq, da, int, boolA, e1, e2, e3]
  | succ d ih =>
    intro i S K f hd hr hn h2 hk e1 e2 e3 ea eb ed
    have g1 : ((i : Int) < l.length) = True := by simp; omega
    have gi : i < l.length := by omega
    have w1 := wrap_succ (show i < 9223372036854775807 by omega)
    have ht := rep_take runC gi
    have hlen : ((l.take i).map runC).length = i := by simp; omega
    have ap := fun nid L => appA_rep (nid := nid) (bytes := 16) hr.rep (xs := [runC l[i]]) (by simp) rfl (by rw [hlen]; simp; omega) L
    have c0 := fun H => @atR H l i gi
    have c1 := fun H off n => @cR H l i off n gi
    rw [hlen] at ap
    simp only [runC, int, List.length_singleton] at ap c1
    have hs := hr.kill
    have k2 : (kill K S).get 2 = some (.box false [O, S]) := by rw [hs.2 2 (by omega), h2]
    have l2 := Heap.get_lt k2
    have q2 := fun L => get_old k2 L
    have q2' := fun L => get_old h2 L
    have gs : ∀ L b, (hx (kill K S) L).set 2 b = hx ((kill K S).set 2 b) L := fun L b => hx_set_old _ L b 2 l2
    rw [AW_loop]
    unfold c58L1
    simp only [↓vp, vz, Nat.reduceLT, Nat.reduceEqDiff, Nat.reduceLeDiff, Nat.reduceAdd, Nat.reduceSub, Nat.reduceMul, Int.reduceBEq, Int.reduceBNe, Int.reduceLT, Int.reduceLE, Int.reduceEq, reduceIte, reduceCtorEq, da, int, boolA, dr, e1, e2, e3, ea, eb, ed, g1, c0, c1, runC, ap, kill_next, w1, q2, q2', gs]
    rw [← hx_nil (hx _ _)]
    refine ih (i + 1) (.sl (K.next + 2) 0 (i + 1)) _ _ (by omega) (.inr ⟨K.next + 2, by omega, ?_, ?_⟩) ?_ ?_ (fun j hj hj2 => ?_) ?_ ?_ ?_ ?_ ?_ ?_
    · rw [ht, List.length_append, hlen]
      rfl
    · rw [ht]
      exact get2n (by rw [Heap.next_set, kill_next])
    · rw [hx_next, Heap.next_set, kill_next]; omega
    · exact get_old (Heap.get_set_self _ l2) _
    · rw [hx_get_old _ _ _ (by rw [Heap.next_set, kill_next]; omega), Heap.get_set_ne _ hj2, hs.2 j hj, hk j hj hj2]
    all_goals simp only [↓vp, vz, Nat.reduceLT, Nat.reduceEqDiff, Nat.reduceLeDiff, Nat.reduceAdd, Nat.reduceSub, Nat.reduceMul, Int.reduceBEq, Int.reduceBNe, Int.reduceLT, Int.reduceLE, Int.reduceEq, reduceIte, reduceCtorEq, da, int, boolA, e1, e2, e3, ea, eb]
theorem frz_pair {H : Heap} {S1 S2 : AV} {r1 r2 : List (List AV)} (h1 : Rep H 2 S1 r1) (h2 : Rep H 2 S2 r2) (hne : ∀ i j a b,S1 = .sl i 0 a → S2 = .sl j 0 b → i ≠ j) (n : Nat) : ∃ H',frz (n + 4) H (.agg [S1,S2]) = some (.agg [.lst r1,.lst r2],H'):=by
 rw [frz_agg,frzL_cons]
 have last : ∀ G G' : Heap,frz (n + 1) G S2 = some (.lst r2,G') → frz.frzL (n + 2) G [S2] = some ([.lst r2],G'):=fun G G' h => by
  rw [frzL_cons,h]
  rfl
 rcases h1 with ⟨rfl,rfl⟩ | ⟨i,rfl,h1⟩
 ·obtain ⟨H',h⟩:=frz_rep (K:=H) (L:=[]) (by rw [hx_nil]; exact h2) n
  rw [hx_nil] at h
  rw [frz_nils,Option.bind_some,last _ _ h]
  exact ⟨_,rfl⟩
 ·have h2' : Rep (H.set i (.row true 2 r1)) 2 S2 r2:=by
   rcases h2 with h | ⟨j,e,h2⟩
   ·exact .inl h
   ·refine .inr ⟨j,e,?_⟩
    rw [Heap.get_set_ne _ (fun q => hne i j _ _ rfl e q.symm)]
    exact h2
  obtain ⟨H',h⟩:=frz_rep (K:=H.set i (.row true 2 r1)) (L:=[]) (by rw [hx_nil]; exact h2') n
  rw [hx_nil] at h
  have e1 : frz (n + 2) H (.sl i 0 r1.length) = some (.lst r1,H.set i (.row true 2 r1)):=by
   rw [frz_sl,h1]
   simp
  rw [e1,Option.bind_some,last _ _ h]
  exact ⟨_,rfl⟩
theorem s58 (f h : List RunM) (hf : f.length ≤ 2000000) (hh : h.length ≤ 2000000) (H : Heap) : callL ftB (.fn (.func 58) [] []) [.agg [encR f,encR h]] H = some (.agg [encR f,encR h],H):=by
 refine call_p (as':=[.agg [encR f,encR h]]) rfl rfl (by simp) ?_
 unfold c58 r58
 simp only [↓vp,vz,Nat.reduceLT,Nat.reduceEqDiff,Nat.reduceLeDiff,Nat.reduceAdd,Nat.reduceSub,Nat.reduceMul,Int.reduceBEq,Int.reduceBNe,Int.reduceLT,Int.reduceLE,Int.reduceEq,reduceIte,reduceCtorEq,da,int,boolA,dr]
 rw [← hx_nil (hx Heap.empty _)]
 refine l58a f hf (.sc (.slice none 0 0)) 3 _ (by omega) (fun f1 K1 S1 hr1 hn1 h21 hk1 a1 a2 a3 => ?_) f.length 0 (.sc (.slice none 0 0)) _ _ (by simp) (.inl ⟨rfl,by simp⟩) ?_ rfl (fun _ _ _ => rfl) ?_ ?_ ?_ ?_ ?_ ?_
 rotate_left
 ·simp [hx_next]
 iterate 6 first | rfl | (simp only [↓vp,vz,Nat.reduceLT,Nat.reduceEqDiff,Nat.reduceLeDiff,Nat.reduceAdd,Nat.reduceSub,Nat.reduceMul,Int.reduceBEq,Int.reduceBNe,Int.reduceLT,Int.reduceLE,Int.reduceEq,reduceIte,reduceCtorEq,da,int,boolA]; done)
 have g0 : ∀ L,(hx K1 L).get 0 = some (.box false [encR f,encR h]):=fun L => get_old (by rw [hk1 0 (by omega) (by omega)]; rfl) L
 unfold c58R3
 simp only [↓vp,vz,Nat.reduceLT,Nat.reduceEqDiff,Nat.reduceLeDiff,Nat.reduceAdd,Nat.reduceSub,Nat.reduceMul,Int.reduceBEq,Int.reduceBNe,Int.reduceLT,Int.reduceLE,Int.reduceEq,reduceIte,reduceCtorEq,da,int,boolA,dr,a1,a2,a3,g0]
 refine l58b h hh S1 K1.next K1 hn1 (fun f2 K2 S2 hr2 hn2 h22 hk2 b1 b2 b3 => ?_) h.length 0 (.sc (.slice none 0 0)) _ _ (by simp) (.inl ⟨rfl,by simp⟩) (Nat.le_refl _) h21 (fun _ _ _ => rfl) ?_ ?_ ?_ ?_ ?_ ?_
 rotate_left
 ·simp only [↓vp,vz,Nat.reduceLT,Nat.reduceEqDiff,Nat.reduceLeDiff,Nat.reduceAdd,Nat.reduceSub,Nat.reduceMul,Int.reduceBEq,Int.reduceBNe,Int.reduceLT,Int.reduceLE,Int.reduceEq,reduceIte,reduceCtorEq,da,int,boolA,a1,a2,a3]
 ·simp only [↓vp,vz,Nat.reduceLT,Nat.reduceEqDiff,Nat.reduceLeDiff,Nat.reduceAdd,Nat.reduceSub,Nat.reduceMul,Int.reduceBEq,Int.reduceBNe,Int.reduceLT,Int.reduceLE,Int.reduceEq,reduceIte,reduceCtorEq,da,int,boolA,a1,a2,a3]
 ·simp only [↓vp,vz,Nat.reduceLT,Nat.reduceEqDiff,Nat.reduceLeDiff,Nat.reduceAdd,Nat.reduceSub,Nat.reduceMul,Int.reduceBEq,Int.reduceBNe,Int.reduceLT,Int.reduceLE,Int.reduceEq,reduceIte,reduceCtorEq,da,int,boolA,a1,a2,a3]
 ·simp only [↓vp,vz,Nat.reduceLT,Nat.reduceEqDiff,Nat.reduceLeDiff,Nat.reduceAdd,Nat.reduceSub,Nat.reduceMul,Int.reduceBEq,Int.reduceBNe,Int.reduceLT,Int.reduceLE,Int.reduceEq,reduceIte,reduceCtorEq,da,int,boolA,a1,a2,a3]
 ·simp only [↓vp,vz,Nat.reduceLT,Nat.reduceEqDiff,Nat.reduceLeDiff,Nat.reduceAdd,Nat.reduceSub,Nat.reduceMul,Int.reduceBEq,Int.reduceBNe,Int.reduceLT,Int.reduceLE,Int.reduceEq,reduceIte,reduceCtorEq,da,int,boolA,a1,a2,a3]
 ·simp only [↓vp,vz,Nat.reduceLT,Nat.reduceEqDiff,Nat.reduceLeDiff,Nat.reduceAdd,Nat.reduceSub,Nat.reduceMul,Int.reduceBEq,Int.reduceBNe,Int.reduceLT,Int.reduceLE,Int.reduceEq,reduceIte,reduceCtorEq,da,int,boolA,a1,a2,a3]
  rfl
 have y1 : K2.get 1 = some (.box false [.sc (.slice none 0 0),.sc (.slice none 0 0)]):=by
  rw [hk2 1 (by omega) (by omega),hk1 1 (by omega) (by omega)]
  rfl
 have y2:=fun L => get_old h22 L
 have l1:=Heap.get_lt y1
 have y3:=fun L => get_old y1 L
 have gs : ∀ L b,(hx K2 L).set 1 b = hx (K2.set 1 b) L:=fun L b => hx_set_old _ L b 1 l1
 have y4 : ∀ b L,(hx (K2.set 1 b) L).get 1 = some b:=fun b L => get_old (Heap.get_set_self _ l1) L
 have z1 : Rep (hx (K2.set 1 (.box false [S1,S2])) []) 2 S1 (f.map runC):=by
  rcases hr1 with h | ⟨id,q1,q2,q3⟩
  ·exact .inl h
  ·have:=Heap.get_lt q3
   refine .inr ⟨id,q2,?_⟩
   rw [hx_nil,Heap.get_set_ne _ (by omega),hk2 id this (by omega)]
   exact q3
 have z2 : Rep (hx (K2.set 1 (.box false [S1,S2])) []) 2 S2 (h.map runC):=by
  rcases hr2 with h | ⟨id,q1,q2,q3⟩
  ·exact .inl h
  ·refine .inr ⟨id,q2,?_⟩
   rw [hx_nil,Heap.get_set_ne _ (by omega)]
   exact q3
 obtain ⟨H',hz⟩:=frz_pair z1 z2 (fun i j a b e1 e2 => by
  rcases hr1 with ⟨q,_⟩ | ⟨id,q1,q2,q3⟩
  ·rw [q] at e1; cases e1
  ·rw [q2] at e1
   cases e1
   have:=Heap.get_lt q3
   rcases hr2 with ⟨q,_⟩ | ⟨id',p1,p2,p3⟩
   ·rw [q] at e2; cases e2
   ·rw [p2] at e2
    cases e2
    omega) 20
 have o1 : S1.one = true:=by rcases z1 with ⟨h,_⟩ | ⟨_,h,_⟩ <;> rw [h] <;> rfl
 have o2 : S2.one = true:=by rcases z2 with ⟨h,_⟩ | ⟨_,h,_⟩ <;> rw [h] <;> rfl
 unfold c58R2
 simp only [↓vp,vz,Nat.reduceLT,Nat.reduceEqDiff,Nat.reduceLeDiff,Nat.reduceAdd,Nat.reduceSub,Nat.reduceMul,Int.reduceBEq,Int.reduceBNe,Int.reduceLT,Int.reduceLE,Int.reduceEq,reduceIte,reduceCtorEq,da,int,boolA,dr,b1,b2,b3,y2,y3,gs,y4,o1,o2]
 refine RetP_go.2 ⟨rfl,?_⟩
 rw [resC,resN,if_pos (by decide)]
 simp only [↓vp,vz,Nat.reduceLT,Nat.reduceEqDiff,Nat.reduceLeDiff,Nat.reduceAdd,Nat.reduceSub,Nat.reduceMul,Int.reduceBEq,Int.reduceBNe,Int.reduceLT,Int.reduceLE,Int.reduceEq,reduceIte,reduceCtorEq,da,int,boolA,b2,y4]
 simp only [retV1]
 rw [show FZ = 24 from rfl,hz]
 rfl
end Go.VI
namespace Go.VI
attribute [local congr] AW_congr OW_congr DW_congr NW_congr VW_congr GW_congr PW_congr KW_congr ite_congr' GV_congr CV_congr KF_congr
structure OpM where
 kind : Int
 txid : Int
 n : Int
 at' : Int
 len : Int
def pOpC (o : OpM) : List AV:=[int o.kind,int o.txid,int o.n,int o.at',int o.len]
def encO (l : List OpM) : AV:=.lst (l.map pOpC)
theorem atO {H : Heap} {l : List OpM} {i : Nat} (h : i < l.length) : iaddrA H none 5 (encO l) (i : Int) = some (.pim (l.map pOpC) i 0):=by
 have hl : i < (l.map pOpC).length:=by simpa using h
 simp only [iaddrA,encO]
 rw [if_pos (by omega),Int.toNat_natCast,List.getElem?_eq_getElem hl]
 simp [pOpC]
theorem cO {H : Heap} {l : List OpM} {i : Nat} (h : i < l.length) : cellsAt H (.pim (l.map pOpC) i 0) 5 = some (pOpC l[i]):=by
 have hl : i < (l.map pOpC).length:=by simpa using h
 simp [cellsAt,h,pOpC]
def opBad (o : OpM) : Bool:=(!(o.kind == 2) && decide (60 < o.n) && decide (o.n ≤ 16384)) || (o.kind == 2 && decide (o.txid < 0))
def few11 (f h : List RunM) (pages : Int) (l : List OpM) : Bool:=l.all (fun o => !opBad o) && (f ++ h).all fewR && decide (l.length ≤ 60) && decide (pages ≤ 600)
theorem l55a (l : List OpM) (hl : l.length ≤ 100000000000000) (C : Blk) {Q : AExit → Env → Heap → Prop} (x1 : AV)
   (hex : ∀ f' K, l.all (fun o => !opBad o) = true → K.get 0 = some C → f' 1 = x1 → f' 3 = .ptr 0 0 0 → f' 7 = int l.length → Q (.exit 0) (mkE 73 f') (hx K []))
   (hret : ∀ f' K, l.all (fun o => !opBad o) = false → f' 6 = boolA false → Q .ret (mkE 73 f') (hx K [])) :
   ∀ (d i : Nat) (K : Heap) (f : Nat → AV), i + d = l.length → l.all (fun o => !opBad o) = (l.drop i).all (fun o => !opBad o) → K.get 0 = some C → f 1 = x1 → f 3 = .ptr 0 0 0 → f 7 = int i → f 12 = encO l → f 13 = int l.length → f 14 = int i →
    AW ftB (.loop c55L0) (mkE 73 f) (hx K []) Q := by
  intro d
  induction d with
  | zero =>
    intro i K f hd hc h0 h1 h3 h7 h12 h13 h14
    have g1 : ((i : Int) < l.length) = False := by simp; omega
    rw [AW_loop]
    unfold c55L0
    rw [List.drop_eq_nil_of_le (by omega)] at hc
    simp only [↓vp, vz, Nat.reduceLT, Nat.reduceEqDiff, Nat.reduceLeDiff, Nat.reduceAdd, Nat.reduceSub, Nat.reduceMul, Int.reduceBEq, Int.reduceBNe, Int.reduceLT, Int.reduceLE, Int.reduceEq, reduceIte, reduceCtorEq, da, int, boolA, h13, h14, g1]
    refine hex _ K (by rw [hc]; rfl) h0 ?_ ?_ ?_
    · simp only [↓vp, vz, Nat.reduceLT, Nat.reduceEqDiff, Nat.reduceLeDiff, Nat.reduceAdd, Nat.reduceSub, Nat.reduceMul, Int.reduceBEq, Int.reduceBNe, Int.reduceLT, Int.reduceLE, Int.reduceEq, reduceIte, reduceCtorEq, da, int, boolA, h1]
    · simp only [↓vp, vz, Nat.reduceLT, Nat.reduceEqDiff, Nat.reduceLeDiff, Nat.reduceAdd, Nat.reduceSub, Nat.reduceMul, Int.reduceBEq, Int.reduceBNe, Int.reduceLT, Int.reduceLE, Int.reduceEq, reduceIte, reduceCtorEq, da, int, boolA, h3]
    · simp only [↓vp, vz, Nat.reduceLT, Nat.reduceEqDiff, Nat.reduceLeDiff, Nat.reduceAdd, Nat.reduceSub, Nat.reduceMul, Int.reduceBEq, Int.reduceBNe, Int.reduceLT, Int.reduceLE, Int.reduceEq, reduceIte, reduceCtorEq, da, int, boolA, h7]
      rw [show i = l.length by omega]
  | succ d ih =>
    intro i K f hd hc h0 h1 h3 h7 h12 h13 h14
    have g1 : ((i : Int) < l.length) = True := by simp; omega
    have gi : i < l.length := by omega
    have w1 := wrap_succ (show i < 9223372036854775807 by omega)
    have lk := Heap.get_lt h0
    have a0 := fun H => @atO H l i gi
    have b0 := fun H => @cO H l i gi
    simp only [pOpC, int] at b0
    rw [List.drop_eq_getElem_cons gi, List.all_cons] at hc
    have go : opBad l[i] = false → AW ftB (.loop c55L0) (mkE 73 f) (hx K []) Q := fun hb => by
      rw [hb, Bool.not_false, Bool.true_and] at hc
      rw [AW_loop]
      unfold c55L0
      cases k1 : (l[i].kind == 2) with
      | true =>
        have t1 : ¬ l[i].txid < 0 := fun q => by unfold opBad at hb; rw [k1, decide_eq_true q] at hb; simp at hb
        have e1 : (l[i].txid < 0) = False := eq_false t1
        have k2 : (l[i].kind != 2) = false := by unfold bne; rw [k1]; rfl
        simp only [↓vp, vz, Nat.reduceLT, Nat.reduceEqDiff, Nat.reduceLeDiff, Nat.reduceAdd, Nat.reduceSub, Nat.reduceMul, Int.reduceBEq, Int.reduceBNe, Int.reduceLT, Int.reduceLE, Int.reduceEq, reduceIte, reduceCtorEq, da, int, boolA, dr, h1, h3, h7, h12, h13, h14, g1, a0, b0, k1, k2, e1, w1]
        rw [← hx_nil (hx K _)]
        refine ih (i + 1) _ _ (by omega) hc (get_old h0 _) ?_ ?_ ?_ ?_ ?_ ?_ <;> simp only [↓vp, vz, Nat.reduceLT, Nat.reduceEqDiff, Nat.reduceLeDiff, Nat.reduceAdd, Nat.reduceSub, Nat.reduceMul, Int.reduceBEq, Int.reduceBNe, Int.reduceLT, Int.reduceLE, Int.reduceEq, reduceIte, reduceCtorEq, da, int, boolA, h1, h3, h12, h13]
      | false =>
        have k2 : (l[i].kind != 2) = true := by unfold bne; rw [k1]; rfl
        by_cases n1 : l[i].n > 60
        · have n2 : ¬ l[i].n ≤ 16384 := fun q => by unfold opBad at hb; rw [k1, decide_eq_true q, decide_eq_true (show 60 < l[i].n from n1)] at hb; simp at hb
          have e1 : (l[i].n > 60) = True := eq_true n1
          have e2 : (60 < l[i].n) = True := eq_true n1
          have e3 : (l[i].n ≤ 16384) = False := eq_false n2
          simp only [↓vp, vz, Nat.reduceLT, Nat.reduceEqDiff, Nat.reduceLeDiff, Nat.reduceAdd, Nat.reduceSub, Nat.reduceMul, Int.reduceBEq, Int.reduceBNe, Int.reduceLT, Int.reduceLE, Int.reduceEq, reduceIte, reduceCtorEq, da, int, boolA, dr, h1, h3, h7, h12, h13, h14, g1, a0, b0, k1, k2, e1, e2, e3, w1]
          rw [← hx_nil (hx K _)]
          refine ih (i + 1) _ _ (by omega) hc (get_old h0 _) ?_ ?_ ?_ ?_ ?_ ?_ <;> simp only [↓vp, vz, Nat.reduceLT, Nat.reduceEqDiff, Nat.reduceLeDiff, Nat.reduceAdd, Nat.reduceSub, Nat.reduceMul, Int.reduceBEq, Int.reduceBNe, Int.reduceLT, Int.reduceLE, Int.reduceEq, reduceIte, reduceCtorEq, da, int, boolA, h1, h3, h12, h13]
        · have e1 : (l[i].n > 60) = False := eq_false n1
          have e2 : (60 < l[i].n) = False := eq_false n1
          simp only [↓vp, vz, Nat.reduceLT, Nat.reduceEqDiff, Nat.reduceLeDiff, Nat.reduceAdd, Nat.reduceSub, Nat.reduceMul, Int.reduceBEq, Int.reduceBNe, Int.reduceLT, Int.reduceLE, Int.reduceEq, reduceIte, reduceCtorEq, da, int, boolA, dr, h1, h3, h7, h12, h13, h14, g1, a0, b0, k1, k2, e1, e2, w1]
          rw [← hx_nil (hx K _)]
          refine ih (i + 1) _ _ (by omega) hc (get_old h0 _) ?_ ?_ ?_ ?_ ?_ ?_ <;> simp only [↓vp, vz, Nat.reduceLT, Nat.reduceEqDiff, Nat.reduceLeDiff, Nat.reduceAdd, Nat.reduceSub, Nat.reduceMul, Int.reduceBEq, Int.reduceBNe, Int.reduceLT, Int.reduceLE, Int.reduceEq, reduceIte, reduceCtorEq, da, int, boolA, h1, h3, h12, h13]
    cases hb : opBad l[i] with
    | false => exact go hb
    | true =>
      rw [hb, Bool.not_true, Bool.false_and] at hc
      rw [AW_loop]
      unfold c55L0
      cases k1 : (l[i].kind == 2) with
      | true =>
        have t1 : l[i].txid < 0 := by unfold opBad at hb; rw [k1] at hb; simpa using hb
        have e1 : (l[i].txid < 0) = True := eq_true t1
        have k2 : (l[i].kind != 2) = false := by unfold bne; rw [k1]; rfl
        simp only [↓vp, vz, Nat.reduceLT, Nat.reduceEqDiff, Nat.reduceLeDiff, Nat.reduceAdd, Nat.reduceSub, Nat.reduceMul, Int.reduceBEq, Int.reduceBNe, Int.reduceLT, Int.reduceLE, Int.reduceEq, reduceIte, reduceCtorEq, da, int, boolA, dr, h1, h3, h7, h12, h13, h14, g1, a0, b0, k1, k2, e1, w1]
        rw [← hx_nil (hx K _)]
        refine hret _ _ hc ?_
        simp only [↓vp, vz, Nat.reduceLT, Nat.reduceEqDiff, Nat.reduceLeDiff, Nat.reduceAdd, Nat.reduceSub, Nat.reduceMul, Int.reduceBEq, Int.reduceBNe, Int.reduceLT, Int.reduceLE, Int.reduceEq, reduceIte, reduceCtorEq, da, int, boolA]
      | false =>
        have k2 : (l[i].kind != 2) = true := by unfold bne; rw [k1]; rfl
        have n1 : 60 < l[i].n ∧ l[i].n ≤ 16384 := by unfold opBad at hb; rw [k1] at hb; simpa using hb
        have e1 : (l[i].n > 60) = True := eq_true n1.1
        have e2 : (60 < l[i].n) = True := eq_true n1.1
        have e3 : (l[i].n ≤ 16384) = True := eq_true n1.2
        simp only [↓vp, vz, Nat.reduceLT, Nat.reduceEqDiff, Nat.reduceLeDiff, Nat.reduceAdd, Nat.reduceSub, Nat.reduceMul, Int.reduceBEq, Int.reduceBNe, Int.reduceLT, Int.reduceLE, Int.reduceEq, reduceIte, reduceCtorEq, da, int, boolA, dr, h1, h3, h7, h12, h13, h14, g1, a0, b0, k1, k2, e1, e2, e3, w1]
        rw [← hx_nil (hx K _)]
        refine hret _ _ hc ?_
        simp only [↓vp, vz, Nat.reduceLT, Nat.reduceEqDiff, Nat.reduceLeDiff, Nat.reduceAdd, Nat.reduceSub, Nat.reduceMul, Int.reduceBEq, Int.reduceBNe, Int.reduceLT, Int.reduceLE, Int.reduceEq, reduceIte, reduceCtorEq, da, int, boolA]
def SrcR (K : Heap) (V : AV) (l : List RunM) : Prop:=∀ (i : Nat) (hi : i < l.length),∃ P,(∀ L,iaddrA (hx K L) none 2 V (i : Int) = some P) ∧ ∀ L,cellsAt (hx K L) P 2 = some (runC l[i])
theorem SrcR.hx {K : Heap} {V : AV} {l : List RunM} (h : SrcR K V l) (M : List Blk) : SrcR (hx K M) V l:=fun i hi => by
 obtain ⟨P,h1,h2⟩:=h i hi
 exact ⟨P,fun L => by rw [hx_hx]; exact h1 _,fun L => by rw [hx_hx]; exact h2 _⟩
theorem l55b (l : List RunM) (hl : l.length ≤ 4000000) (V : AV) (x1 x7 : AV) {Q : AExit → Env → Heap → Prop}
   (hex : ∀ f' K, l.all fewR = true → f' 1 = x1 → f' 7 = x7 → Q (.exit 2) (mkE 73 f') (hx K []))
   (hret : ∀ f' K, l.all fewR = false → f' 6 = boolA false → Q .ret (mkE 73 f') (hx K [])) :
   ∀ (d i : Nat) (K : Heap) (f : Nat → AV), i + d = l.length → l.all fewR = (l.drop i).all fewR → SrcR K V l → f 1 = x1 → f 7 = x7 → f 50 = V → f 51 = int l.length → f 52 = int i →
    AW ftB (.loop c55L1) (mkE 73 f) (hx K []) Q := by
  intro d
  induction d with
  | zero =>
    intro i K f hd hc hV h1 h7 h50 h51 h52
    have g1 : ((i : Int) < l.length) = False := by simp; omega
    rw [AW_loop]
    unfold c55L1
    rw [List.drop_eq_nil_of_le (by omega)] at hc
    simp only [↓vp, vz, Nat.reduceLT, Nat.reduceEqDiff, Nat.reduceLeDiff, Nat.reduceAdd, Nat.reduceSub, Nat.reduceMul, Int.reduceBEq, Int.reduceBNe, Int.reduceLT, Int.reduceLE, Int.reduceEq, reduceIte, reduceCtorEq, da, int, boolA, h51, h52, g1]
    refine hex _ K (by rw [hc]; rfl) ?_ ?_
    · simp only [↓vp, vz, Nat.reduceLT, Nat.reduceEqDiff, Nat.reduceLeDiff, Nat.reduceAdd, Nat.reduceSub, Nat.reduceMul, Int.reduceBEq, Int.reduceBNe, Int.reduceLT, Int.reduceLE, Int.reduceEq, reduceIte, reduceCtorEq, da, int, boolA, h1]
    · simp only [↓vp, vz, Nat.reduceLT, Nat.reduceEqDiff, Nat.reduceLeDiff, Nat.reduceAdd, Nat.reduceSub, Nat.reduceMul, Int.reduceBEq, Int.reduceBNe, Int.reduceLT, Int.reduceLE, Int.reduceEq, reduceIte, reduceCtorEq, da, int, boolA, h7]
  | succ d ih =>
    intro i K f hd hc hV h1 h7 h50 h51 h52
    have g1 : ((i : Int) < l.length) = True := by simp; omega
    have gi : i < l.length := by omega
    have w1 := wrap_succ (show i < 9223372036854775807 by omega)
    obtain ⟨P, a0, b0⟩ := hV i gi
    simp only [runC, int] at b0
    rw [List.drop_eq_getElem_cons gi, List.all_cons] at hc
    have km : ∀ K L Q, KW ftB (.fn (.func 49) [] []) [.agg (runC l[i])] (hx K L) Q ↔ Q (boolA (mayM l[i])) (hx K L) := fun K L Q => kB49
    simp only [runC, int] at km
    rw [AW_loop]
    unfold c55L1
    cases c1 : mayM l[i] with
    | false =>
      rw [c1] at km
      have e : fewR l[i] = true := by simp [fewR, c1]
      rw [e, Bool.true_and] at hc
      simp only [↓vp, vz, Nat.reduceLT, Nat.reduceEqDiff, Nat.reduceLeDiff, Nat.reduceAdd, Nat.reduceSub, Nat.reduceMul, Int.reduceBEq, Int.reduceBNe, Int.reduceLT, Int.reduceLE, Int.reduceEq, reduceIte, reduceCtorEq, da, int, boolA, dr, h1, h7, h50, h51, h52, g1, a0, b0, km, w1]
      rw [← hx_nil (hx K _)]
      refine ih (i + 1) _ _ (by omega) hc (hV.hx _) ?_ ?_ ?_ ?_ ?_ <;> simp only [↓vp, vz, Nat.reduceLT, Nat.reduceEqDiff, Nat.reduceLeDiff, Nat.reduceAdd, Nat.reduceSub, Nat.reduceMul, Int.reduceBEq, Int.reduceBNe, Int.reduceLT, Int.reduceLE, Int.reduceEq, reduceIte, reduceCtorEq, da, int, boolA, h1, h7, h50, h51]
    | true =>
      rw [c1] at km
      have w3 : IntKind.i64.wrap (l[i].1 + l[i].2) = endM l[i] := wrap_i64 (by have := mayM_iff.1 c1; omega)
      by_cases c2 : 600 < endM l[i]
      · have d2 : (endM l[i] > 600) = True := eq_true (by omega)
        have d3 : (600 < endM l[i]) = True := eq_true (by omega)
        have e : fewR l[i] = false := by simp [fewR, c1, c2]
        rw [e, Bool.false_and] at hc
        simp only [↓vp, vz, Nat.reduceLT, Nat.reduceEqDiff, Nat.reduceLeDiff, Nat.reduceAdd, Nat.reduceSub, Nat.reduceMul, Int.reduceBEq, Int.reduceBNe, Int.reduceLT, Int.reduceLE, Int.reduceEq, reduceIte, reduceCtorEq, da, int, boolA, dr, h1, h7, h50, h51, h52, g1, a0, b0, km, w3, d2, d3]
        rw [← hx_nil (hx K _)]
        refine hret _ _ hc ?_
        simp only [↓vp, vz, Nat.reduceLT, Nat.reduceEqDiff, Nat.reduceLeDiff, Nat.reduceAdd, Nat.reduceSub, Nat.reduceMul, Int.reduceBEq, Int.reduceBNe, Int.reduceLT, Int.reduceLE, Int.reduceEq, reduceIte, reduceCtorEq, da, int, boolA]
      · have d2 : (endM l[i] > 600) = False := eq_false (by omega)
        have d3 : (600 < endM l[i]) = False := eq_false (by omega)
        have e : fewR l[i] = true := by simp [fewR, c2]
        rw [e, Bool.true_and] at hc
        simp only [↓vp, vz, Nat.reduceLT, Nat.reduceEqDiff, Nat.reduceLeDiff, Nat.reduceAdd, Nat.reduceSub, Nat.reduceMul, Int.reduceBEq, Int.reduceBNe, Int.reduceLT, Int.reduceLE, Int.reduceEq, reduceIte, reduceCtorEq, da, int, boolA, dr, h1, h7, h50, h51, h52, g1, a0, b0, km, w3, d2, d3, w1]
        rw [← hx_nil (hx K _)]
        refine ih (i + 1) _ _ (by omega) hc (hV.hx _) ?_ ?_ ?_ ?_ ?_ <;> simp only [↓vp, vz, Nat.reduceLT, Nat.reduceEqDiff, Nat.reduceLeDiff, Nat.reduceAdd, Nat.reduceSub, Nat.reduceMul, Int.reduceBEq, Int.reduceBNe, Int.reduceLT, Int.reduceLE, Int.reduceEq, reduceIte, reduceCtorEq, da, int, boolA, h1, h7, h50, h51]
theorem src_sl {K : Heap} {id : Nat} {fz : Bool} {l : List RunM} (h : K.get id = some (.row fz 2 (l.map runC))) : SrcR K (.sl id 0 l.length) l:=fun i hi => by
 have h':=fun L => get_old h L
 refine ⟨.ptr id i 0,fun L => ?_,fun L => ?_⟩
 ·unfold iaddrA
  simp only
  rw [if_pos ⟨by omega,by omega,rowSz_of (h' L)⟩]
  simp
 ·simp only [cellsAt,h' L,List.getElem?_map,List.getElem?_eq_getElem hi,Option.map_some]
  simp [runC]
theorem s55 (f h : List RunM) (pages : Int) (l : List OpM) (hf : f.length ≤ 2000000) (hh : h.length ≤ 2000000) (hl : l.length ≤ 100000000000000) {A : AV} (hA : A = encO l ∨ (A = .sc (.slice none 0 0) ∧ l = [])) (H : Heap) :
  callL ftB (.fn (.func 55) [] []) [.agg [encR f,encR h],int pages,A] H = some (boolA (few11 f h pages l),H):=by
 refine call_p (as':=[.agg [encR f,encR h],int pages,encO l]) rfl (by rcases hA with rfl | ⟨rfl,rfl⟩ <;> rfl) (by simp) ?_
 unfold c55 r55
 have ln : ∀ H,lenV H 0 (encO l) = some (int l.length,H):=fun H => by
  show some (AV.sc (.int .i64 ((l.map pOpC).length : Nat)),H) = _
  rw [List.length_map]
  rfl
 simp only [int] at ln
 simp only [↓vp,vz,Nat.reduceLT,Nat.reduceEqDiff,Nat.reduceLeDiff,Nat.reduceAdd,Nat.reduceSub,Nat.reduceMul,Int.reduceBEq,Int.reduceBNe,Int.reduceLT,Int.reduceLE,Int.reduceEq,reduceIte,reduceCtorEq,da,int,boolA,dr,ln]
 rw [← hx_nil (hx Heap.empty _)]
 refine l55a l hl (.box false [encR f,encR h]) (int pages) (fun f1 K1 ho h0 e1 e3 e7 => ?_) (fun f' K hm q2 => ?_) l.length 0 _ _ (by simp) rfl rfl ?_ ?_ ?_ ?_ ?_ ?_
 ·have lk:=Heap.get_lt h0
  unfold c55R3
  have q0 : ∀ L,(hx K1 L).get 0 = some (.box false [.lst (f.map runC),.lst (h.map runC)]):=fun L => get_old h0 L
  have m0 : ∀ nid H,appA nid H 2 16 .emp [] = some (.emp,H):=fun _ _ => rfl
  have sp : sidP [] = some []:=rfl
  have xf : ∀ q,exFQ (none : FP).isSome q = q:=fun q => by cases q <;> rfl
  have r0 : ∀ (l : List RunM) H,rowsOf H (encR l) = some (l.map runC):=fun _ _ => rfl
  have sz : ∀ l : List RunM,allSz 2 (l.map runC) = true:=fun l => by
   induction l with
   | nil => rfl
   | cons x l ih => rw [List.map_cons,allSz_cons,ih]; rfl
  have a1 : ∀ nid H,f ≠ [] → appA nid H 2 16 .emp (f.map runC) = some (.sl nid 0 f.length,H.put nid (.row false 2 (f.map runC))):=fun nid H hne => by
   have : 0 < f.length:=List.length_pos_iff.2 hne
   rw [appA_emp,List.length_map,if_neg (by omega),if_pos ⟨by omega,sz f⟩]
  have a2 : ∀ nid H,h ≠ [] → appA nid H 2 16 .emp (h.map runC) = some (.sl nid 0 h.length,H.put nid (.row false 2 (h.map runC))):=fun nid H hne => by
   have : 0 < h.length:=List.length_pos_iff.2 hne
   rw [appA_emp,List.length_map,if_neg (by omega),if_pos ⟨by omega,sz h⟩]
  have le : ∀ H,lenV H 0 .emp = some (.sc (.int .i64 0),H):=fun _ => rfl
  have ls : ∀ H id n,lenV H 0 (.sl id 0 n) = some (.sc (.int .i64 (n : Nat)),H):=fun _ _ _ => rfl
  have p0 : (K1.next = 0) = False:=eq_false (by omega)
  have p1 : (0 = K1.next) = False:=eq_false (by omega)
  have rest : ∀ (K : Heap) (f' : Nat → AV) (V : AV),SrcR K V (f ++ h) → f' 1 = int pages → f' 7 = int l.length → f' 50 = V → f' 51 = int (f ++ h).length → f' 52 = int 0 →
    AW ftB (.loop c55L1) (mkE 73 f') (hx K []) (blockA 2 (thenA (fun e H => AW ftB c55R2 e H (RetP [.tmp 6] (.sc (.bool (few11 f h pages l))))) (RetP [.tmp 6] (.sc (.bool (few11 f h pages l)))))):=fun K f' V hV u1 u7 u50 u51 u52 => by
   refine l55b (f ++ h) (by rw [List.length_append]; omega) V (int pages) (int l.length) (fun f2 K2 hm z1 z7 => ?_) (fun f2 K2 hm z6 => ?_) (f ++ h).length 0 K f' (by simp) rfl hV u1 u7 u50 u51 u52
   ·by_cases g1 : l.length ≤ 60
    ·have d1 : ((l.length : Int) ≤ 60) = True:=eq_true (by omega)
     by_cases g2 : pages ≤ 600
     ·have e : few11 f h pages l = true:=by unfold few11; rw [ho,hm,decide_eq_true g1,decide_eq_true g2]; rfl
      rw [e]
      unfold c55R2
      simp only [↓vp,vz,Nat.reduceLT,Nat.reduceEqDiff,Nat.reduceLeDiff,Nat.reduceAdd,Nat.reduceSub,Nat.reduceMul,Int.reduceBEq,Int.reduceBNe,Int.reduceLT,Int.reduceLE,Int.reduceEq,reduceIte,reduceCtorEq,da,int,boolA,rt,z1,z7,d1,eq_true g2]
     ·have e : few11 f h pages l = false:=by unfold few11; rw [ho,hm,decide_eq_true g1,decide_eq_false g2]; rfl
      rw [e]
      unfold c55R2
      simp only [↓vp,vz,Nat.reduceLT,Nat.reduceEqDiff,Nat.reduceLeDiff,Nat.reduceAdd,Nat.reduceSub,Nat.reduceMul,Int.reduceBEq,Int.reduceBNe,Int.reduceLT,Int.reduceLE,Int.reduceEq,reduceIte,reduceCtorEq,da,int,boolA,rt,z1,z7,d1,eq_false g2]
    ·have d1 : ((l.length : Int) ≤ 60) = False:=eq_false (by omega)
     have e : few11 f h pages l = false:=by unfold few11; rw [ho,hm,decide_eq_false g1]; rfl
     rw [e]
     unfold c55R2
     simp only [↓vp,vz,Nat.reduceLT,Nat.reduceEqDiff,Nat.reduceLeDiff,Nat.reduceAdd,Nat.reduceSub,Nat.reduceMul,Int.reduceBEq,Int.reduceBNe,Int.reduceLT,Int.reduceLE,Int.reduceEq,reduceIte,reduceCtorEq,da,int,boolA,rt,z1,z7,d1]
   ·have e : few11 f h pages l = false:=by unfold few11; rw [ho,hm]; rfl
    rw [e]
    simp only [↓vp,vz,Nat.reduceLT,Nat.reduceEqDiff,Nat.reduceLeDiff,Nat.reduceAdd,Nat.reduceSub,Nat.reduceMul,Int.reduceBEq,Int.reduceBNe,Int.reduceLT,Int.reduceLE,Int.reduceEq,reduceIte,reduceCtorEq,da,int,boolA,rt,z6]
  have t1 : (f.length * 16 ≤ 140737488355328) = True:=eq_true (by omega)
  have t2 : ((f.length + h.length) * 16 ≤ 140737488355328) = True:=eq_true (by omega)
  have t3 : allSz 2 (h.map runC) = true:=sz h
  have sp0 : splice (f.map runC) f.length [] = f.map runC:=by simp [splice]
  have dp : (f.map runC).drop f.length = []:=List.drop_eq_nil_of_le (by simp)
  have tk : (f.map runC).take f.length = f.map runC:=List.take_of_length_le (by simp)
  by_cases c1 : f = []
  ·subst c1
   by_cases c2 : h = []
   ·subst c2
    simp only [↓vp,vz,Nat.reduceLT,Nat.reduceEqDiff,Nat.reduceLeDiff,Nat.reduceAdd,Nat.reduceSub,Nat.reduceMul,Int.reduceBEq,Int.reduceBNe,Int.reduceLT,Int.reduceLE,Int.reduceEq,reduceIte,reduceCtorEq,da,int,boolA,dr,e1,e3,e7,q0,r0,m0,sp,xf,exFQ,mkFQ_n,le,p0,p1]
    rw [← hx_nil (hx K1 _)]
    refine rest _ _ _ (fun i hi => absurd hi (by simp)) ?_ ?_ rfl ?_ ?_
    all_goals first | rfl | (simp only [↓vp,vz,Nat.reduceLT,Nat.reduceEqDiff,Nat.reduceLeDiff,Nat.reduceAdd,Nat.reduceSub,Nat.reduceMul,Int.reduceBEq,Int.reduceBNe,Int.reduceLT,Int.reduceLE,Int.reduceEq,reduceIte,reduceCtorEq,da,int,boolA,e1,e7]; done) | (simp only [↓vp,vz,Nat.reduceLT,Nat.reduceEqDiff,Nat.reduceLeDiff,Nat.reduceAdd,Nat.reduceSub,Nat.reduceMul,Int.reduceBEq,Int.reduceBNe,Int.reduceLT,Int.reduceLE,Int.reduceEq,reduceIte,reduceCtorEq,da,int,boolA,e1,e7,List.length_append,List.nil_append,List.append_nil]; done) | (simp only [↓vp,vz,Nat.reduceLT,Nat.reduceEqDiff,Nat.reduceLeDiff,Nat.reduceAdd,Nat.reduceSub,Nat.reduceMul,Int.reduceBEq,Int.reduceBNe,Int.reduceLT,Int.reduceLE,Int.reduceEq,reduceIte,reduceCtorEq,da,int,boolA,e1,e7]; rfl)
   ·have a2':=fun nid H => a2 nid H c2
    simp only [↓vp,vz,Nat.reduceLT,Nat.reduceEqDiff,Nat.reduceLeDiff,Nat.reduceAdd,Nat.reduceSub,Nat.reduceMul,Int.reduceBEq,Int.reduceBNe,Int.reduceLT,Int.reduceLE,Int.reduceEq,reduceIte,reduceCtorEq,da,int,boolA,dr,e1,e3,e7,q0,r0,m0,sp,xf,exFQ,mkFQ_n,le,ls,p0,p1,a2']
    rw [← hx_nil (hx K1 _)]
    refine rest _ _ _ (src_sl (fz:=false) (hx_get _ _ 2)) ?_ ?_ rfl ?_ ?_
    all_goals first | rfl | (simp only [↓vp,vz,Nat.reduceLT,Nat.reduceEqDiff,Nat.reduceLeDiff,Nat.reduceAdd,Nat.reduceSub,Nat.reduceMul,Int.reduceBEq,Int.reduceBNe,Int.reduceLT,Int.reduceLE,Int.reduceEq,reduceIte,reduceCtorEq,da,int,boolA,e1,e7]; done) | (simp only [↓vp,vz,Nat.reduceLT,Nat.reduceEqDiff,Nat.reduceLeDiff,Nat.reduceAdd,Nat.reduceSub,Nat.reduceMul,Int.reduceBEq,Int.reduceBNe,Int.reduceLT,Int.reduceLE,Int.reduceEq,reduceIte,reduceCtorEq,da,int,boolA,e1,e7,List.length_append,List.nil_append,List.append_nil]; done) | (simp only [↓vp,vz,Nat.reduceLT,Nat.reduceEqDiff,Nat.reduceLeDiff,Nat.reduceAdd,Nat.reduceSub,Nat.reduceMul,Int.reduceBEq,Int.reduceBNe,Int.reduceLT,Int.reduceLE,Int.reduceEq,reduceIte,reduceCtorEq,da,int,boolA,e1,e7]; rfl)
  ·have a1':=fun nid H => a1 nid H c1
   by_cases c2 : h = []
   ·subst c2
    have nl:=Nat.add_zero f.length
    simp only [↓vp,vz,Nat.reduceLT,Nat.reduceEqDiff,Nat.reduceLeDiff,Nat.reduceAdd,Nat.reduceSub,Nat.reduceMul,Int.reduceBEq,Int.reduceBNe,Int.reduceLT,Int.reduceLE,Int.reduceEq,reduceIte,reduceCtorEq,da,int,boolA,dr,e1,e3,e7,q0,r0,m0,sp,xf,exFQ,mkFQ_n,le,ls,p0,p1,a1',t1,t2,t3,sp0,tk,dp,List.append_nil,nl]
    rw [← hx_nil (hx K1 _)]
    refine rest _ _ _ (by rw [List.append_nil]; exact src_sl (fz:=false) (hx_get _ _ 1)) ?_ ?_ rfl ?_ ?_
    all_goals first | rfl | (simp only [↓vp,vz,Nat.reduceLT,Nat.reduceEqDiff,Nat.reduceLeDiff,Nat.reduceAdd,Nat.reduceSub,Nat.reduceMul,Int.reduceBEq,Int.reduceBNe,Int.reduceLT,Int.reduceLE,Int.reduceEq,reduceIte,reduceCtorEq,da,int,boolA,e1,e7]; done) | (simp only [↓vp,vz,Nat.reduceLT,Nat.reduceEqDiff,Nat.reduceLeDiff,Nat.reduceAdd,Nat.reduceSub,Nat.reduceMul,Int.reduceBEq,Int.reduceBNe,Int.reduceLT,Int.reduceLE,Int.reduceEq,reduceIte,reduceCtorEq,da,int,boolA,e1,e7,List.length_append,List.nil_append,List.append_nil]; done) | (simp only [↓vp,vz,Nat.reduceLT,Nat.reduceEqDiff,Nat.reduceLeDiff,Nat.reduceAdd,Nat.reduceSub,Nat.reduceMul,Int.reduceBEq,Int.reduceBNe,Int.reduceLT,Int.reduceLE,Int.reduceEq,reduceIte,reduceCtorEq,da,int,boolA,e1,e7]; rfl)
   ·have nl : (f.length + h.length ≤ f.length) = False:=eq_false (by have : 0 < h.length:=List.length_pos_iff.2 c2; omega)
    simp only [↓vp,vz,Nat.reduceLT,Nat.reduceEqDiff,Nat.reduceLeDiff,Nat.reduceAdd,Nat.reduceSub,Nat.reduceMul,Int.reduceBEq,Int.reduceBNe,Int.reduceLT,Int.reduceLE,Int.reduceEq,reduceIte,reduceCtorEq,da,int,boolA,dr,e1,e3,e7,q0,r0,m0,sp,xf,exFQ,mkFQ_n,le,ls,p0,p1,a1',t1,t2,t3,sp0,tk,nl]
    rw [← hx_nil (hx K1 _)]
    refine rest _ _ _ (by rw [← List.length_append,← List.map_append]; exact src_sl (fz:=false) (hx_get _ _ 2)) ?_ ?_ rfl ?_ ?_
    all_goals first | rfl | (simp only [↓vp,vz,Nat.reduceLT,Nat.reduceEqDiff,Nat.reduceLeDiff,Nat.reduceAdd,Nat.reduceSub,Nat.reduceMul,Int.reduceBEq,Int.reduceBNe,Int.reduceLT,Int.reduceLE,Int.reduceEq,reduceIte,reduceCtorEq,da,int,boolA,e1,e7]; done) | (simp only [↓vp,vz,Nat.reduceLT,Nat.reduceEqDiff,Nat.reduceLeDiff,Nat.reduceAdd,Nat.reduceSub,Nat.reduceMul,Int.reduceBEq,Int.reduceBNe,Int.reduceLT,Int.reduceLE,Int.reduceEq,reduceIte,reduceCtorEq,da,int,boolA,e1,e7,List.length_append,List.nil_append,List.append_nil]; done) | (simp only [↓vp,vz,Nat.reduceLT,Nat.reduceEqDiff,Nat.reduceLeDiff,Nat.reduceAdd,Nat.reduceSub,Nat.reduceMul,Int.reduceBEq,Int.reduceBNe,Int.reduceLT,Int.reduceLE,Int.reduceEq,reduceIte,reduceCtorEq,da,int,boolA,e1,e7]; rfl)
 ·have e : few11 f h pages l = false:=by unfold few11; rw [hm]; rfl
  rw [e]
  simp only [↓vp,vz,Nat.reduceLT,Nat.reduceEqDiff,Nat.reduceLeDiff,Nat.reduceAdd,Nat.reduceSub,Nat.reduceMul,Int.reduceBEq,Int.reduceBNe,Int.reduceLT,Int.reduceLE,Int.reduceEq,reduceIte,reduceCtorEq,da,int,boolA,rt,q2]
 all_goals first | rfl | (simp only [↓vp,vz,Nat.reduceLT,Nat.reduceEqDiff,Nat.reduceLeDiff,Nat.reduceAdd,Nat.reduceSub,Nat.reduceMul,Int.reduceBEq,Int.reduceBNe,Int.reduceLT,Int.reduceLE,Int.reduceEq,reduceIte,reduceCtorEq,da,int,boolA]; done)
end Go.VI
namespace Go.VI
open Go.Proofs
variable {W : World}
theorem bulk_one {H : Type} (d : DataW H) : 1 ≤ Ytoinghjainpkfaa.Rows.uptoBulk d:=by
 cases d with
 | lit l => cases l <;> simp [Ytoinghjainpkfaa.Rows.uptoBulk]
 | nil => simp [Ytoinghjainpkfaa.Rows.uptoBulk]
 | ptr d => simp [Ytoinghjainpkfaa.Rows.uptoBulk]
 | slice elems spare => simp [Ytoinghjainpkfaa.Rows.uptoBulk]
 | agg parts => simp [Ytoinghjainpkfaa.Rows.uptoBulk]
 | iface t d => simp [Ytoinghjainpkfaa.Rows.uptoBulk]
 | map entries => simp [Ytoinghjainpkfaa.Rows.uptoBulk]
 | held h => simp [Ytoinghjainpkfaa.Rows.uptoBulk]
theorem bulk_len {H : Type} (l : List (DataW H)) : l.length ≤ Ytoinghjainpkfaa.Rows.uptoBulkAll l:=by
 induction l with
 | nil => simp [Ytoinghjainpkfaa.Rows.uptoBulkAll]
 | cons x r ih => have:=bulk_one x; simp only [Ytoinghjainpkfaa.Rows.uptoBulkAll,List.length_cons]; omega
theorem lst_len {F : Fz} {rows : List (List AV)} {A : Option Addr} {n cap : Nat} (h : VF F (.lst rows) (.slice A n cap)) : rows.length = n:=by
 cases h
 rfl
theorem lst_bulk {H : Type} {enc : TypeId × Value → H} {base : Nat} {spare : Nat → Bool} {held : Bool} {fuel : Nat} {v : Value} {x : DataW H × List MemPlace} {l : List RunM}
  (h : DataW.trod enc Try.prog W base spare held fuel 62 [v] = some x) (hc : CVF (frzW W) [encR l] [v]) : l.length ≤ Ytoinghjainpkfaa.Rows.uptoBulk x.1:=by
 have hv:=(hc.2 0 _ rfl).2
 rcases DataW.trod_slice Try.underlying62 h with ⟨e,rfl⟩ | ⟨a,len,cap,elems,rest,n,rfl,e,rfl,hb,hl,hm,hlen,hel,_,_⟩
 ·cases e
  have:=lst_len hv
  rw [List.length_map] at this
  omega
 ·cases e
  have:=lst_len hv
  rw [List.length_map] at this
  have h2:=bulk_len (elems.map (·.1))
  rw [List.length_map] at h2
  simp only [Ytoinghjainpkfaa.Rows.uptoBulk]
  omega
theorem stU {H : Type} {enc : TypeId × Value → H} {base : Nat} {spare : Nat → Bool} {held : Bool} {fuel : Nat} {cs : List Value} {x : DataW H × List MemPlace} (h : DataW.trod enc Try.prog W base spare held fuel 92 cs = some x)
  (hw : ∀ n ∈ x.1.weights Try.prog 92,n ≤ reachBytes) (hb : Ytoinghjainpkfaa.Rows.uptoBulk x.1 ≤ 1048576) : ∃ l : List RunM × List RunM,(l.1.length ≤ 1048576 ∧ l.2.length ≤ 1048576) ∧ CVF (frzW W) [encR l.1,encR l.2] cs:=by
 obtain ⟨y0,y1,n,rfl,hl,h0,h1⟩:=ChangeShapes.trod_struct2 Try.underlying92 h
 have c92 : Try.prog.cellsOf 92 = 2:=by kernel_rfl
 have c62 : Try.prog.cellsOf 62 = 1:=by kernel_rfl
 rw [c92] at hl
 match cs,hl with
 | [v0,v1],_ =>
  simp only [c62,List.drop_zero,List.take_succ_cons,List.take_zero,List.drop_succ_cons] at h0 h1
  have hw' : ∀ k ∈ DataW.weightsEach Try.prog [62,62] [y0.1,y1.1],k ≤ reachBytes:=fun k hk => hw k (by simpa [DataW.weights,Try.underlying92] using hk)
  simp only [DataW.weightsEach,List.mem_append] at hw'
  obtain ⟨_,⟨f,rfl,_⟩,q0⟩:=rdR W H enc base spare held n _ _ h0 fun k hk => hw' k (.inl hk)
  obtain ⟨_,⟨g,rfl,_⟩,q1⟩:=rdR W H enc base spare held n _ _ h1 fun k hk => hw' k (.inr (.inl hk))
  have b0:=lst_bulk h0 q0
  have b1:=lst_bulk h1 q1
  simp only [Ytoinghjainpkfaa.Rows.uptoBulk,Ytoinghjainpkfaa.Rows.uptoBulkAll] at hb
  exact ⟨(f,g),⟨by simp only; omega,by simp only; omega⟩,q0.cons q1⟩
variable (W)
theorem rdOp : RD Try.prog W 118 fun xs => ∃ o : OpM,xs = pOpC o ∧ (Lit.int .i64 o.txid).wf = true :=
 (rd_struct (Es:=[_,_,_,_]) Try.underlying118 (by kernel_rfl) ⟨rdInt W,rdInt W,rdInt W,rdRn W,trivial⟩).mono fun xs h => by
  obtain ⟨_,_,rfl,⟨a,rfl,_⟩,_,_,rfl,⟨b,rfl,hb⟩,_,_,rfl,⟨c,rfl,_⟩,_,_,rfl,⟨x,rfl,_⟩,rfl⟩:=h
  exact ⟨⟨a,b,c,x.1,x.2⟩,rfl,hb⟩
def okO (l : List OpM) : Prop:=l.length ≤ 100000000000000 ∧ ∀ o ∈ l,o.txid ≤ 9223372036854775807
theorem rdO : RD Try.prog W 111 fun xs => ∃ l : List OpM,xs = [encO l] ∧ okO l :=
 (rd_slice (sz:=5) (B:=40) Try.underlying111 (by kernel_rfl) (by decide) (by kernel_rfl) (rdOp W)).mono fun xs ⟨rows,h1,h2,h3⟩ => by
  obtain ⟨l,rfl,hl⟩:=rows_map (g:=pOpC) (p:=fun o => (Lit.int .i64 o.txid).wf = true) fun r hr => (h2 r hr).1
  refine ⟨l,h1,?_,fun o ho => ?_⟩
  ·simp only [List.length_map,reachBytes] at h3
   omega
  ·have:=hl o ho
   simp [Lit.wf,IntKind.min,IntKind.max,IntKind.signed,IntKind.bits] at this
   omega
end Go.VI
namespace Go.Proofs
open Go.Shelf
def Try.mapsClone_ren : Go.Shelf.Ren:=⟨fun | 5 => 132 | 7 => 168 | n => n,fun | 20 => 20 | 23 => 163 | 25 => 3 | 3 => 68 | 4 => 4 | n => n,fun | n => n⟩
theorem Try.mapsClone : Go.Proofs.SlLaysW.n5 Try.prog Try.mapsClone_ren:={
 mixed:=by kernel_rfl
 f5:=⟨Try.f132.name,by decide,Try.func132.trans (congrArg some (by kernel_rfl))⟩
 f7:=Try.func168.trans (congrArg some (by kernel_rfl))
 t4:=Try.underlying4
 a4:=Try.isAgg4
 z4:=Try.sizeOf4
 v4:=Try.zeroValue4
 t20:=Try.underlying20
 a20:=Try.isAgg20
 z20:=Try.sizeOf20
 v20:=Try.zeroValue20
 t23:=Try.underlying163
 a23:=Try.isAgg163
 z23:=Try.sizeOf163
 v23:=Try.zeroValue163 }
end Go.Proofs
namespace Go.VI
open Go.Proofs Go.Shelf
theorem cloMP_ok : PrimOk Go.Proofs.Try.prog 132 cloMP:=by
 intro args H H' r h m F w vs hI hv
 unfold cloMP at h
 split at h
 rotate_left
 ·cases h
 rename_i mid
 split at h
 rotate_left
 ·cases h
 rename_i kd es bs ck hg
 cases h
 obtain ⟨mb,hm,he⟩:=vr_mp (hv.val 0 _ rfl)
 obtain rfl : vs = #[.map (some mb.cb)]:=by
  have hl:=hv.len
  refine Array.ext (by simpa using hl) fun i h1 h2 => ?_
  simp at h2
  subst h2
  simpa [Array.getD_eq_getD_getElem?,h1] using he
 obtain ⟨ens,h1,h2,h2b,h3⟩:=hI.blk mid mb _ hm hg
 obtain ⟨q1,q2⟩:=Inv.push hI.free hI (wd:=w) rfl rfl rfl rfl (.map ens ck) (.mpb kd es bs ck) 0 0 0 ⟨ens,heap_alloc_at,h2,h2b,fun i k v hi => by
  obtain ⟨en,c1,c2,c3,c4,c5⟩:=h3 i k v hi
  exact ⟨en,c1,c2.mono (mset_le _ hI.free.no) (FLe.refl F),c3,c4.mono (mset_le _ hI.free.no) (FLe.refl F),c5⟩⟩
 have hput : H.put H.next (.mpb kd es bs ck) = hx H [.mpb kd es bs ck]:=by
  have:=hx_put0 H [] (.mpb kd es bs ck)
  rw [hx_nil] at this
  rw [this]
  rfl
 rw [hput] at q1
 refine .inl ⟨Try.mapsClone.f5.enters rfl _ _,?_⟩
 refine (AnyW.maps_Clone Try.mapsClone mb.cb ens ck w h1).mono fun e w' ⟨he,hw⟩ => ?_
 subst hw
 exact ⟨_,_,F,he,.mp (mset_self _ _ _),q1,q2,⟨fun id mb' x => by
  rcases mset_cases x with ⟨rfl,_⟩ | ⟨_,x⟩
  ·exact .inr (Nat.le_refl _)
  ·exact .inl x,by rw [hx_next]; omega⟩⟩
end Go.VI
