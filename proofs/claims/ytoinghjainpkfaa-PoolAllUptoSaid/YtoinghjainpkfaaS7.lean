import Derived.Test.YtoinghjainpkfaaS6
/- What the claim hangs on, part 7: RF5 UL UM UN UR UT UV UU UO UW RF516. -/
set_option linter.unusedVariables false
set_option maxRecDepth 100000
namespace Go.VI
theorem fc121 : compF Go.Proofs.Try.prog 121 = some (3,r121,c121):=by kernel_rfl
theorem fn121 : (Go.Proofs.Try.prog.funcs[121]?).all (fun fn => !(fn.name == "runtime.NumGoroutine")) = true:=by kernel_rfl
theorem fc122 : compF Go.Proofs.Try.prog 122 = some (14,r122,c122):=by kernel_rfl
theorem fn122 : (Go.Proofs.Try.prog.funcs[122]?).all (fun fn => !(fn.name == "runtime.NumGoroutine")) = true:=by kernel_rfl
theorem fc133 : compF Go.Proofs.Try.prog 133 = some (7,r133,c133):=by kernel_rfl
theorem fn133 : (Go.Proofs.Try.prog.funcs[133]?).all (fun fn => !(fn.name == "runtime.NumGoroutine")) = true:=by kernel_rfl
theorem fc124 : compF Go.Proofs.Try.prog 124 = some (9,r124,c124):=by kernel_rfl
theorem fn124 : (Go.Proofs.Try.prog.funcs[124]?).all (fun fn => !(fn.name == "runtime.NumGoroutine")) = true:=by kernel_rfl
theorem fc55 : compF Go.Proofs.Try.prog 55 = some (73,r55,c55):=by kernel_rfl
theorem fn55 : (Go.Proofs.Try.prog.funcs[55]?).all (fun fn => !(fn.name == "runtime.NumGoroutine")) = true:=by kernel_rfl
theorem fc56 : compF Go.Proofs.Try.prog 56 = some (97,r56,c56):=by kernel_rfl
theorem fn56 : (Go.Proofs.Try.prog.funcs[56]?).all (fun fn => !(fn.name == "runtime.NumGoroutine")) = true:=by kernel_rfl
theorem fc57 : compF Go.Proofs.Try.prog 57 = some (60,r57,c57):=by kernel_rfl
theorem fn57 : (Go.Proofs.Try.prog.funcs[57]?).all (fun fn => !(fn.name == "runtime.NumGoroutine")) = true:=by kernel_rfl
theorem fc58 : compF Go.Proofs.Try.prog 58 = some (37,r58,c58):=by kernel_rfl
theorem fn58 : (Go.Proofs.Try.prog.funcs[58]?).all (fun fn => !(fn.name == "runtime.NumGoroutine")) = true:=by kernel_rfl
theorem fc59 : compF Go.Proofs.Try.prog 59 = some (7,r59,c59):=by kernel_rfl
theorem fn59 : (Go.Proofs.Try.prog.funcs[59]?).all (fun fn => !(fn.name == "runtime.NumGoroutine")) = true:=by kernel_rfl
theorem fc60 : compF Go.Proofs.Try.prog 60 = some (8,r60,c60):=by kernel_rfl
theorem fn60 : (Go.Proofs.Try.prog.funcs[60]?).all (fun fn => !(fn.name == "runtime.NumGoroutine")) = true:=by kernel_rfl
theorem fc61 : compF Go.Proofs.Try.prog 61 = some (68,r61,c61):=by kernel_rfl
theorem fn61 : (Go.Proofs.Try.prog.funcs[61]?).all (fun fn => !(fn.name == "runtime.NumGoroutine")) = true:=by kernel_rfl
theorem fc62 : compF Go.Proofs.Try.prog 62 = some (18,r62,c62):=by kernel_rfl
theorem fn62 : (Go.Proofs.Try.prog.funcs[62]?).all (fun fn => !(fn.name == "runtime.NumGoroutine")) = true:=by kernel_rfl
theorem fc63 : compF Go.Proofs.Try.prog 63 = some (5,r63,c63):=by kernel_rfl
theorem fn63 : (Go.Proofs.Try.prog.funcs[63]?).all (fun fn => !(fn.name == "runtime.NumGoroutine")) = true:=by kernel_rfl
theorem fc64 : compF Go.Proofs.Try.prog 64 = some (58,r64,c64):=by kernel_rfl
theorem fn64 : (Go.Proofs.Try.prog.funcs[64]?).all (fun fn => !(fn.name == "runtime.NumGoroutine")) = true:=by kernel_rfl
theorem fc65 : compF Go.Proofs.Try.prog 65 = some (25,r65,c65):=by kernel_rfl
theorem fn65 : (Go.Proofs.Try.prog.funcs[65]?).all (fun fn => !(fn.name == "runtime.NumGoroutine")) = true:=by kernel_rfl
theorem fc66 : compF Go.Proofs.Try.prog 66 = some (84,r66,c66):=by kernel_rfl
theorem fn66 : (Go.Proofs.Try.prog.funcs[66]?).all (fun fn => !(fn.name == "runtime.NumGoroutine")) = true:=by kernel_rfl
theorem fc67 : compF Go.Proofs.Try.prog 67 = some (39,r67,c67):=by kernel_rfl
theorem fn67 : (Go.Proofs.Try.prog.funcs[67]?).all (fun fn => !(fn.name == "runtime.NumGoroutine")) = true:=by kernel_rfl
theorem fc68 : compF Go.Proofs.Try.prog 68 = some (105,r68,c68):=by kernel_rfl
theorem fn68 : (Go.Proofs.Try.prog.funcs[68]?).all (fun fn => !(fn.name == "runtime.NumGoroutine")) = true:=by kernel_rfl
theorem fc69 : compF Go.Proofs.Try.prog 69 = some (58,r69,c69):=by kernel_rfl
theorem fn69 : (Go.Proofs.Try.prog.funcs[69]?).all (fun fn => !(fn.name == "runtime.NumGoroutine")) = true:=by kernel_rfl
theorem fc70 : compF Go.Proofs.Try.prog 70 = some (44,r70,c70):=by kernel_rfl
theorem fn70 : (Go.Proofs.Try.prog.funcs[70]?).all (fun fn => !(fn.name == "runtime.NumGoroutine")) = true:=by kernel_rfl
theorem fc71 : compF Go.Proofs.Try.prog 71 = some (32,r71,c71):=by kernel_rfl
theorem fn71 : (Go.Proofs.Try.prog.funcs[71]?).all (fun fn => !(fn.name == "runtime.NumGoroutine")) = true:=by kernel_rfl
theorem fc72 : compF Go.Proofs.Try.prog 72 = some (35,r72,c72):=by kernel_rfl
theorem fn72 : (Go.Proofs.Try.prog.funcs[72]?).all (fun fn => !(fn.name == "runtime.NumGoroutine")) = true:=by kernel_rfl
theorem fc74 : compF Go.Proofs.Try.prog 74 = some (23,r74,c74):=by kernel_rfl
theorem fn74 : (Go.Proofs.Try.prog.funcs[74]?).all (fun fn => !(fn.name == "runtime.NumGoroutine")) = true:=by kernel_rfl
theorem fc118 : compF Go.Proofs.Try.prog 118 = some (19,r118,c118):=by kernel_rfl
theorem fn118 : (Go.Proofs.Try.prog.funcs[118]?).all (fun fn => !(fn.name == "runtime.NumGoroutine")) = true:=by kernel_rfl
theorem fc119 : compF Go.Proofs.Try.prog 119 = some (44,r119,c119):=by kernel_rfl
theorem fn119 : (Go.Proofs.Try.prog.funcs[119]?).all (fun fn => !(fn.name == "runtime.NumGoroutine")) = true:=by kernel_rfl
theorem fc125 : compF Go.Proofs.Try.prog 125 = some (59,r125,c125):=by kernel_rfl
theorem fn125 : (Go.Proofs.Try.prog.funcs[125]?).all (fun fn => !(fn.name == "runtime.NumGoroutine")) = true:=by kernel_rfl
theorem fc126 : compF Go.Proofs.Try.prog 126 = some (32,r126,c126):=by kernel_rfl
theorem fn126 : (Go.Proofs.Try.prog.funcs[126]?).all (fun fn => !(fn.name == "runtime.NumGoroutine")) = true:=by kernel_rfl
theorem fc127 : compF Go.Proofs.Try.prog 127 = some (38,r127,c127):=by kernel_rfl
theorem fn127 : (Go.Proofs.Try.prog.funcs[127]?).all (fun fn => !(fn.name == "runtime.NumGoroutine")) = true:=by kernel_rfl
theorem fc128 : compF Go.Proofs.Try.prog 128 = some (17,r128,c128):=by kernel_rfl
theorem fn128 : (Go.Proofs.Try.prog.funcs[128]?).all (fun fn => !(fn.name == "runtime.NumGoroutine")) = true:=by kernel_rfl
theorem fc129 : compF Go.Proofs.Try.prog 129 = some (37,r129,c129):=by kernel_rfl
theorem fn129 : (Go.Proofs.Try.prog.funcs[129]?).all (fun fn => !(fn.name == "runtime.NumGoroutine")) = true:=by kernel_rfl
theorem fc130 : compF Go.Proofs.Try.prog 130 = some (47,r130,c130):=by kernel_rfl
theorem fn130 : (Go.Proofs.Try.prog.funcs[130]?).all (fun fn => !(fn.name == "runtime.NumGoroutine")) = true:=by kernel_rfl
theorem fc131 : compF Go.Proofs.Try.prog 131 = some (38,r131,c131):=by kernel_rfl
theorem fn131 : (Go.Proofs.Try.prog.funcs[131]?).all (fun fn => !(fn.name == "runtime.NumGoroutine")) = true:=by kernel_rfl
theorem fc166 : compF Go.Proofs.Try.prog 166 = some (22,r166,c166):=by kernel_rfl
theorem fn166 : (Go.Proofs.Try.prog.funcs[166]?).all (fun fn => !(fn.name == "runtime.NumGoroutine")) = true:=by kernel_rfl
theorem fc167 : compF Go.Proofs.Try.prog 167 = some (32,r167,c167):=by kernel_rfl
theorem fn167 : (Go.Proofs.Try.prog.funcs[167]?).all (fun fn => !(fn.name == "runtime.NumGoroutine")) = true:=by kernel_rfl
theorem fc120 : compF Go.Proofs.Try.prog 120 = some (25,r120,c120):=by kernel_rfl
theorem fn120 : (Go.Proofs.Try.prog.funcs[120]?).all (fun fn => !(fn.name == "runtime.NumGoroutine")) = true:=by kernel_rfl
theorem fc123 : compF Go.Proofs.Try.prog 123 = some (19,r123,c123):=by kernel_rfl
theorem fn123 : (Go.Proofs.Try.prog.funcs[123]?).all (fun fn => !(fn.name == "runtime.NumGoroutine")) = true:=by kernel_rfl
theorem fc73 : compF Go.Proofs.Try.prog 73 = some (44,r73,c73):=by kernel_rfl
theorem fn73 : (Go.Proofs.Try.prog.funcs[73]?).all (fun fn => !(fn.name == "runtime.NumGoroutine")) = true:=by kernel_rfl
theorem ftK_ok : FTOk Go.Proofs.Try.prog ftK:=by
 intro k d h
 unfold ftK at h
 split at h
 ·cases h; exact go_ok fc121 fn121
 ·cases h; exact go_ok fc122 fn122
 ·cases h; exact go_ok fc133 fn133
 ·cases h; exact go_ok fc124 fn124
 ·cases h
theorem ftU_ok : FTOk Go.Proofs.Try.prog ftU:=by
 intro k d h
 unfold ftU at h
 split at h
 ·cases h; exact goP_ok follows ftM_ok ⟨_,_,_,rfl⟩
 ·cases h; exact cloF_ok follows g111
 ·cases h; exact cloMP_ok
 ·cases h; exact roP_ok (goP_ok follows ftK_ok ⟨_,_,_,rfl⟩)
 ·cases h; exact roP_ok (goP_ok follows ftK_ok ⟨_,_,_,rfl⟩)
 ·cases h; exact roP_ok (goP_ok follows ftK_ok ⟨_,_,_,rfl⟩)
 ·cases h; exact roP_ok (goP_ok follows ftK_ok ⟨_,_,_,rfl⟩)
 ·cases h
theorem pp120 : PrimOk Go.Proofs.Try.prog 120 unionP:=slF_ok follows ftU_ok (go_ok fc120 fn120) unionP_sl
theorem pp123 : PrimOk Go.Proofs.Try.prog 123 delP':=slF_ok follows ftU_ok (go_ok fc123 fn123) delP'_sl
theorem pp73 : PrimOk Go.Proofs.Try.prog 73 copyP:=slF_ok follows ftU_ok (go_ok fc73 fn73) copyP_sl
theorem ftB_ok : FTOk Go.Proofs.Try.prog ftB:=by
 intro k d h
 unfold ftB at h
 split at h
 ·cases h; exact goP_ok follows ftM_ok ⟨_,_,_,rfl⟩
 ·cases h; exact goP_ok follows ftM_ok ⟨_,_,_,rfl⟩
 ·cases h; exact goP_ok follows ftM_ok ⟨_,_,_,rfl⟩
 ·cases h; exact goP_ok follows ftM_ok ⟨_,_,_,rfl⟩
 ·cases h; exact goP_ok follows ftM_ok ⟨_,_,_,rfl⟩
 ·cases h; exact goP_ok follows ftM_ok ⟨_,_,_,rfl⟩
 ·cases h; exact goP_ok follows ftM_ok ⟨_,_,_,rfl⟩
 ·cases h; exact go_ok fc48 fn48
 ·cases h; exact goP_ok follows ftM_ok ⟨_,_,_,rfl⟩
 ·cases h; exact goP_ok follows ftM_ok ⟨_,_,_,rfl⟩
 ·cases h; exact cloF_ok follows g111
 ·cases h; exact pp120
 ·cases h; exact pp123
 ·cases h; exact pp73
 ·cases h; exact go_ok fc55 fn55
 ·cases h; exact go_ok fc56 fn56
 ·cases h; exact go_ok fc57 fn57
 ·cases h; exact go_ok fc58 fn58
 ·cases h; exact go_ok fc59 fn59
 ·cases h; exact go_ok fc60 fn60
 ·cases h; exact go_ok fc61 fn61
 ·cases h; exact go_ok fc62 fn62
 ·cases h; exact go_ok fc63 fn63
 ·cases h; exact go_ok fc64 fn64
 ·cases h; exact go_ok fc65 fn65
 ·cases h; exact go_ok fc66 fn66
 ·cases h; exact go_ok fc67 fn67
 ·cases h; exact go_ok fc68 fn68
 ·cases h; exact go_ok fc69 fn69
 ·cases h; exact go_ok fc70 fn70
 ·cases h; exact go_ok fc71 fn71
 ·cases h; exact go_ok fc72 fn72
 ·cases h; exact go_ok fc74 fn74
 ·cases h; exact go_ok fc118 fn118
 ·cases h; exact go_ok fc119 fn119
 ·cases h; exact go_ok fc125 fn125
 ·cases h; exact go_ok fc126 fn126
 ·cases h; exact go_ok fc127 fn127
 ·cases h; exact go_ok fc128 fn128
 ·cases h; exact go_ok fc129 fn129
 ·cases h; exact go_ok fc130 fn130
 ·cases h; exact go_ok fc131 fn131
 ·cases h; exact go_ok fc166 fn166
 ·cases h; exact go_ok fc167 fn167
 ·cases h
end Go.VI
set_option linter.unusedSimpArgs false
namespace Go.VI
structure PRel (p : PoolM) (w : Int → Int) : Prop where
 lo : 2 ≤ p.pages
 le : p.pages ≤ p.limit
 hi : p.limit ≤ 16384
 rf : rightM p.free = true
 rh : ∀ y ∈ p.held,rightM y.2 = true
 free : ∀ k,inR p.free k = true ↔ w k = -1
 key : ∀ y ∈ p.held,0 ≤ y.1
 held : ∀ y ∈ p.held,∀ k,inR y.2 k = true ↔ w k = y.1
 cov : ∀ k,0 ≤ w k → ∃ y ∈ p.held,y.1 = w k
 rg : ∀ k,w k ≠ -2 → 2 ≤ k ∧ k < p.pages
 ge : ∀ k,-2 ≤ w k
theorem endM_gt {x : RunM} (h : mayM x = true) : x.1 < endM x:=by have:=mayM_iff.1 h; unfold endM; omega
theorem in_last {x : RunM} {l : List RunM} (hx : x ∈ l) (h : mayM x = true) : inR l (endM x - 1) = true:=inR_t.2 ⟨x,hx,by have:=endM_gt h; omega,by omega⟩
theorem in_first {x : RunM} {l : List RunM} (hx : x ∈ l) (h : mayM x = true) : inR l x.1 = true:=inR_t.2 ⟨x,hx,by omega,endM_gt h⟩
theorem put_at {t : Int} {u : List RunM} : ∀ {hd : HeldM} {y : Int × List RunM},y ∈ hd → (hd.map (·.1)).Nodup → y.1 ≠ t → y ∈ putO t u hd
 | [],y,hy,_,_ => by cases hy
 | x :: hd,y,hy,hn,hne => by
  unfold putO
  rw [List.map_cons,List.nodup_cons] at hn
  split
  ·rename_i e
   have e : t = x.1:=by simpa using e
   rcases List.mem_cons.1 hy with rfl | hy
   ·exact absurd e.symm hne
   ·simp [hy]
  ·rcases List.mem_cons.1 hy with rfl | hy
   ·simp
   ·exact List.mem_cons.2 (.inr (put_at hy hn.2 hne))
theorem put_key {t : Int} {u : List RunM} : ∀ {hd : HeldM},(t,u) ∈ putO t u hd
 | [] => by simp [putO]
 | x :: hd => by
  unfold putO
  split
  ·simp
  ·exact List.mem_cons.2 (.inr put_key)
theorem put_only {t : Int} {u : List RunM} : ∀ {hd : HeldM},(hd.map (·.1)).Nodup → ∀ {y : Int × List RunM},y ∈ putO t u hd → y.1 = t → y.2 = u
 | [],_,y,hy,e => by
  simp [putO] at hy
  rw [hy]
 | x :: hd,hn,y,hy,e => by
  unfold putO at hy
  rw [List.map_cons,List.nodup_cons] at hn
  split at hy
  ·rename_i e'
   have e' : t = x.1:=by simpa using e'
   rcases List.mem_cons.1 hy with rfl | hy
   ·rfl
   ·exact absurd (by rw [← e',← e]; exact List.mem_map_of_mem hy) hn.1
  ·rename_i e'
   rcases List.mem_cons.1 hy with rfl | hy
   ·rw [e] at e'; simp at e'
   ·exact put_only hn.2 hy e
section
variable {p : PoolM} {w : Int → Int} (h : PRel p w)
include h
theorem PRel.ok : PoolOk p:=by
 refine ⟨h.lo,h.le,h.hi,fun x hx => ?_,fun y hy x hx => ?_⟩
 ·have hm:=(right_iff.1 h.rf).1 x hx
  have:=h.rg _ (by rw [(h.free _).1 (in_last hx hm)]; decide)
  omega
 ·have hm:=(right_iff.1 (h.rh y hy)).1 x hx
  have:=h.rg _ (by rw [(h.held y hy _).1 (in_last hx hm)]; have:=h.key y hy; omega)
  omega
theorem PRel.sel (hb : Int → Bool) (k : Int) : inR (unionSel hb p.held) k = true ↔ 0 ≤ w k ∧ hb (w k) = true:=by
 rw [(unionSel_ok hb p.held).2]
 constructor
 ·rintro ⟨y,hy,h1,h2⟩
  rw [clean_of (h.rh y hy),h.held y hy] at h2
  rw [h2]
  exact ⟨h.key y hy,h1⟩
 ·rintro ⟨h1,h2⟩
  obtain ⟨y,hy,e⟩:=h.cov k h1
  exact ⟨y,hy,by rw [e]; exact h2,by rw [clean_of (h.rh y hy),h.held y hy,e]⟩
theorem PRel.all (k : Int) : inR (unionSel (fun _ => true) p.held) k = true ↔ 0 ≤ w k:=by
 rw [h.sel]
 simp
theorem PRel.get {t : Int} (ht : 0 ≤ t) : rightM ((getO t p.held).getD []) = true ∧ ∀ k,inR ((getO t p.held).getD []) k = true ↔ w k = t:=by
 cases e : getO t p.held with
 | some l => exact ⟨h.rh _ (getO_mem e),fun k => h.held _ (getO_mem e) k⟩
 | none =>
  refine ⟨rfl,fun k => ⟨fun q => absurd (show inR [] k = true from q) (by simp [inR]),fun q => ?_⟩⟩
  obtain ⟨y,hy,e'⟩:=h.cov k (by omega)
  have hn : ∀ {hd : HeldM},getO t hd = none → ∀ y ∈ hd,y.1 ≠ t:=fun {hd} => by
   induction hd with
   | nil => intro _ y hy; cases hy
   | cons x hd ih =>
    intro e y hy
    unfold getO at e
    split at e
    ·cases e
    ·rename_i hne
     rcases List.mem_cons.1 hy with rfl | hy
     ·intro q; rw [q] at hne; simp at hne
     ·exact ih e y hy
  exact absurd (by omega) (hn e y hy)
theorem PRel.state (t : Int) : rightM (unionM p.free (unionSel (fun k => k != t) p.held)) = true ∧ ∀ k,inR (unionM p.free (unionSel (fun k => k != t) p.held)) k = true ↔ w k = -1 ∨ (0 ≤ w k ∧ w k ≠ t):=by
 refine ⟨(unionM_ok _ _).1,fun k => ?_⟩
 rw [(unionM_ok _ _).2,Bool.or_eq_true,clean_of h.rf,clean_of (unionSel_ok _ _).1,h.free,h.sel]
 simp
def settleW (x o : Int) (w : Int → Int) (k : Int) : Int:=if 0 ≤ w k ∧ oldB x o (w k) = true then -1 else w k
theorem PRel.settle (x o : Int) : PRel (settleP p x o) (settleW x o w):=by
 have hs : ∀ k,settleW x o w k = -1 ↔ w k = -1 ∨ (0 ≤ w k ∧ oldB x o (w k) = true):=fun k => by
  unfold settleW
  split
  ·rename_i q; exact ⟨fun _ => .inr q,fun _ => rfl⟩
  ·rename_i q; exact ⟨.inl,fun e => e.resolve_right q⟩
 refine ⟨h.lo,h.le,h.hi,(unionM_ok _ _).1,fun y hy => h.rh y (List.mem_filter.1 hy).1,fun k => ?_,fun y hy => h.key y (List.mem_filter.1 hy).1,fun y hy k => ?_,fun k hk => ?_,fun k hk => h.rg k fun e => hk ?_,fun k => ?_⟩
 ·show inR (unionM p.free (unionSel (oldB x o) p.held)) k = true ↔ _
  rw [(unionM_ok _ _).2,Bool.or_eq_true,clean_of h.rf,clean_of (unionSel_ok _ _).1,h.free,h.sel,hs]
 ·obtain ⟨h1,h2⟩:=List.mem_filter.1 hy
  rw [h.held y h1 k]
  have hk:=h.key y h1
  unfold settleW
  split
  ·rename_i q
   constructor
   ·intro e; rw [e] at q; rw [q.2] at h2; cases h2
   ·intro e; omega
  ·exact Iff.rfl
 ·unfold settleW at hk ⊢
  split at hk
  ·omega
  ·rename_i q
   rw [if_neg q]
   obtain ⟨y,hy,e⟩:=h.cov k hk
   refine ⟨y,List.mem_filter.2 ⟨hy,?_⟩,e⟩
   rw [e]
   cases e' : oldB x o (w k) with
   | true => exact absurd ⟨hk,e'⟩ q
   | false => rfl
 ·unfold settleW
  rw [e,if_neg (by omega)]
 ·unfold settleW
  have:=h.ge k
  split <;> omega
def putW (a n t : Int) (w : Int → Int) (k : Int) : Int:=if a ≤ k ∧ k < a + n then t else w k
theorem PRel.giveBad {t : Int} {x : RunM} : giveE p t x = 1 ↔ (t < 0 ∨ mayM x = false ∨ x.1 < 2 ∨ endM x > p.pages):=by
 have _q:=h
 have hr : rightM [x] = mayM x:=by
  cases e : mayM x with
  | true => exact right_iff.2 ⟨by simp [e],by simp⟩
  | false =>
   cases e' : rightM [x] with
   | false => rfl
   | true => rw [(right_iff.1 e').1 x (by simp)] at e; cases e
 have he : mayM x = true → endsM [x] = endM x:=fun e => by
  unfold endsM
  rw [clean_of (by rw [hr,e])]
  rfl
 have hb : badGive p t x = true ↔ (t < 0 ∨ mayM x = false ∨ x.1 < 2 ∨ endM x > p.pages):=by
  unfold badGive
  rw [hr]
  cases e : mayM x with
  | true => rw [he e]; simp [or_assoc]
  | false => simp
 rw [← hb]
 unfold giveE
 cases badGive p t x with
 | true => simp
 | false => cases hitGive p x <;> simp
theorem PRel.giveHit {t : Int} {x : RunM} (hb : ¬ giveE p t x = 1) : giveE p t x = 0 ∨ giveE p t x = 110 ∧ ∃ k,x.1 ≤ k ∧ k < endM x ∧ w k ≠ -2:=by
 have hb':=hb
 rw [h.giveBad] at hb'
 have hm : mayM x = true:=by cases e : mayM x with
  | true => rfl
  | false => exact absurd (.inr (.inl e)) hb'
 have hr : rightM [x] = true:=right_iff.2 ⟨by simp [hm],by simp⟩
 have e0 : badGive p t x = false:=by
  cases e : badGive p t x with
  | false => rfl
  | true => exact absurd (by unfold giveE; rw [e]; rfl) hb
 cases e1 : hitGive p x with
 | false => left; unfold giveE; rw [e0,e1]; rfl
 | true =>
  right
  refine ⟨by unfold giveE; rw [e0,e1]; rfl,?_⟩
  unfold hitGive at e1
  rw [Bool.or_eq_true,meetM_iff,meetM_iff,clean_of h.rf,clean_of hr,clean_of (unionSel_ok _ _).1] at e1
  have hx : ∀ k,inR [x] k = true → x.1 ≤ k ∧ k < endM x:=fun k q => by
   rw [inR_cons,inR_nil,Bool.or_false,pinR_t] at q
   exact q
  rcases e1 with ⟨k,h1,h2⟩ | ⟨k,h1,h2⟩
  ·rw [h.free] at h1
   exact ⟨k,(hx k h2).1,(hx k h2).2,by omega⟩
  ·rw [h.all] at h1
   exact ⟨k,(hx k h2).1,(hx k h2).2,by omega⟩
theorem PRel.give (hn : (p.held.map (·.1)).Nodup) {t : Int} {x : RunM} (h0 : giveE p t x = 0) : 0 ≤ t ∧ mayM x = true ∧ 2 ≤ x.1 ∧ endM x ≤ p.pages ∧ (∀ k,x.1 ≤ k → k < endM x → w k = -2) ∧ PRel (giveP p t x) (putW x.1 x.2 t w):=by
 have hb' : ¬ giveE p t x = 1:=by rw [h0]; decide
 rw [h.giveBad] at hb'
 have hm : mayM x = true:=by cases e : mayM x with
  | true => rfl
  | false => exact absurd (.inr (.inl e)) hb'
 have hr : rightM [x] = true:=right_iff.2 ⟨by simp [hm],by simp⟩
 have ht : 0 ≤ t:=by omega
 have hx : ∀ k,inR [x] k = true ↔ x.1 ≤ k ∧ k < endM x:=fun k => by
  rw [inR_cons,inR_nil,Bool.or_false,pinR_t]
 have hno : ∀ k,x.1 ≤ k → k < endM x → w k = -2:=fun k h1 h2 => by
  have e1 : hitGive p x = false:=by
   cases e : hitGive p x with
   | false => rfl
   | true =>
    unfold giveE at h0
    rw [e] at h0
    cases e' : badGive p t x with
    | true => rw [e'] at h0; simp at h0
    | false => rw [e'] at h0; simp at h0
  unfold hitGive at e1
  rw [Bool.or_eq_false_iff] at e1
  have n1 : w k ≠ -1:=fun q => by
   have : meetM p.free [x] = true:=meetM_iff.2 ⟨k,by rw [clean_of h.rf,h.free]; exact q,by rw [clean_of hr,hx]; exact ⟨h1,h2⟩⟩
   rw [e1.1] at this; cases this
  have n2 : ¬ 0 ≤ w k:=fun q => by
   have : meetM (unionSel (fun _ => true) p.held) [x] = true:=meetM_iff.2 ⟨k,by rw [clean_of (unionSel_ok _ _).1,h.all]; exact q,by rw [clean_of hr,hx]; exact ⟨h1,h2⟩⟩
   rw [e1.2] at this; cases this
  have:=h.ge k
  omega
 refine ⟨ht,hm,by omega,by omega,hno,?_⟩
 have hg:=h.get ht
 have hu:=unionM_ok ((getO t p.held).getD []) [x]
 have ex : endM x = x.1 + x.2:=rfl
 have huk : ∀ k,inR (giveU p t x) k = true ↔ w k = t ∨ (x.1 ≤ k ∧ k < endM x):=fun k => by
  unfold giveU
  rw [hu.2,Bool.or_eq_true,clean_of hg.1,clean_of hr,hg.2,hx]
 have hw : ∀ k,(x.1 ≤ k ∧ k < endM x) → putW x.1 x.2 t w k = t:=fun k q => by unfold putW; rw [if_pos (by omega)]
 have hw' : ∀ k,¬ (x.1 ≤ k ∧ k < endM x) → putW x.1 x.2 t w k = w k:=fun k q => by unfold putW; rw [if_neg (by omega)]
 unfold giveP
 rw [if_pos h0]
 refine ⟨h.lo,h.le,h.hi,h.rf,fun y hy => ?_,fun k => ?_,fun y hy => ?_,fun y hy k => ?_,fun k hk => ?_,fun k hk => ?_,fun k => ?_⟩
 ·rcases put_mem hy with rfl | hy
  ·exact hu.1
  ·exact h.rh y hy
 ·by_cases q : x.1 ≤ k ∧ k < endM x
  ·rw [hw k q]
   have:=hno k q.1 q.2
   constructor
   ·intro e; rw [h.free] at e; omega
   ·intro e; omega
  ·rw [hw' k q]; exact h.free k
 ·rcases put_mem hy with rfl | hy
  ·exact ht
  ·exact h.key y hy
 ·by_cases e : y.1 = t
  ·rw [put_only hn hy e,huk,e]
   by_cases q : x.1 ≤ k ∧ k < endM x
   ·rw [hw k q]; exact ⟨fun _ => rfl,fun _ => .inr q⟩
   ·rw [hw' k q]; exact ⟨fun e => e.resolve_right q,.inl⟩
  ·rcases put_mem hy with rfl | hy
   ·exact absurd rfl e
   rw [h.held y hy]
   have hk:=h.key y hy
   by_cases q : x.1 ≤ k ∧ k < endM x
   ·rw [hw k q,hno k q.1 q.2]
    constructor
    ·intro q; omega
    ·intro q; exact absurd q.symm e
   ·rw [hw' k q]
 ·by_cases q : putW x.1 x.2 t w k = t
  ·exact ⟨_,put_key,q.symm⟩
  ·by_cases q' : x.1 ≤ k ∧ k < endM x
   ·exact absurd (hw k q') q
   ·rw [hw' k q'] at hk q ⊢
    obtain ⟨y,hy,e⟩:=h.cov k hk
    exact ⟨y,put_at hy hn (by rw [e]; exact q),e⟩
 ·by_cases q' : x.1 ≤ k ∧ k < endM x
  ·show 2 ≤ k ∧ k < p.pages
   omega
  ·rw [hw' k q'] at hk; exact h.rg k hk
 ·by_cases q' : x.1 ≤ k ∧ k < endM x
  ·rw [hw k q']; omega
  ·rw [hw' k q']; exact h.ge k
end
end Go.VI
namespace Go.VI
attribute [local congr] AW_congr OW_congr DW_congr NW_congr VW_congr GW_congr PW_congr KW_congr ite_congr' GV_congr CV_congr KF_congr
theorem AW_sub {ft ft' : FT} (hs : Sub ft ft') {c : ACode} {e : Env} {H : Heap} {Q : AExit → Env → Heap → Prop} (h : AW ft c e H Q) : AW ft' c e H Q:=by
 obtain ⟨x,e',H',h,hq⟩:=h
 obtain ⟨n,hn⟩:=execL_some.1 h
 exact ⟨x,e',H',execL_some.2 ⟨n,exec_sub hs n _ _ _ _ hn⟩,hq⟩
end Go.VI
namespace Go.VI
section
variable {p : PoolM} {w : Int → Int} (h : PRel p w)
include h
theorem PRel.tail : 0 ≤ tailP p ∧ 2 ≤ p.pages - tailP p ∧ (∀ k,p.pages - tailP p ≤ k → k < p.pages → w k = -1) ∧ w (p.pages - tailP p - 1) ≠ -1 ∧
  (0 < tailP p → ∃ l y,p.free = l ++ [y] ∧ y.2 = tailP p ∧ y.1 + y.2 = p.pages):=by
 have hlo:=h.lo
 have hlast : ∀ k,w k = -1 → 2 ≤ k ∧ k < p.pages:=fun k q => h.rg k (by omega)
 unfold tailP
 split
 ·rename_i y hy
  have hmem:=List.mem_of_getLast? hy
  have hm:=(right_iff.1 h.rf).1 y hmem
  have my:=mayM_iff.1 hm
  have ex : endM y = y.1 + y.2:=rfl
  have hdl : p.free = p.free.dropLast ++ [y]:=by
   rw [List.getLast?_eq_some_iff] at hy
   obtain ⟨l,hl⟩:=hy
   rw [hl]
   simp
  split
  ·rename_i e
   have h1:=hlast y.1 ((h.free _).1 (in_first hmem hm))
   refine ⟨by omega,by omega,fun k h1 h2 => (h.free k).1 (inR_t.2 ⟨y,hmem,by omega,by omega⟩),fun q => ?_,fun _ => ⟨_,y,hdl,rfl,e⟩⟩
   rw [← h.free] at q
   obtain ⟨z,hz,q1,q2⟩:=inR_t.1 q
   rw [hdl] at hz
   have hr:=h.rf
   unfold rightM at hr
   rw [hdl,rgt_snoc] at hr
   rcases List.mem_append.1 hz with hz | hz
   ·have:=hr.2.2.2 z hz
    omega
   ·rw [List.mem_singleton] at hz
    subst hz
    omega
  ·rename_i e
   refine ⟨by omega,by omega,fun k _ _ => by omega,fun q => ?_,fun q => by omega⟩
   rw [← h.free] at q
   obtain ⟨z,hz,q1,q2⟩:=inR_t.1 q
   have hr:=h.rf
   unfold rightM at hr
   rw [hdl,rgt_snoc] at hr
   rw [hdl] at hz
   have l1:=hlast _ ((h.free _).1 (in_last hmem hm))
   rcases List.mem_append.1 hz with hz | hz
   ·have:=hr.2.2.2 z hz
    omega
   ·rw [List.mem_singleton] at hz
    subst hz
    omega
 ·rename_i hy
  rw [List.getLast?_eq_none_iff] at hy
  refine ⟨by omega,by omega,fun k _ _ => by omega,fun q => ?_,fun q => by omega⟩
  rw [← h.free,hy] at q
  simp [inR] at q
theorem PRel.take {n : Int} (hn : 1 ≤ n) :
  (∃ y,y ∈ p.free ∧ p.free.find? (takeB n) = some y ∧ n ≤ y.2 ∧ (tookM p.free n).2.2 = true ∧ (takeP p n).2 = (y.1,0) ∧ (takeP p n).1.pages = p.pages ∧ PRel (takeP p n).1 (putW y.1 n (-2) w)) ∨
  (p.free.find? (takeB n) = none ∧ (tookM p.free n).2.2 = false ∧ n > p.limit - (p.pages - tailP p) ∧ takeP p n = (p,0,12)) ∨
  (p.free.find? (takeB n) = none ∧ (tookM p.free n).2.2 = false ∧ ¬ n > p.limit - (p.pages - tailP p) ∧ (takeP p n).2 = (p.pages - tailP p,0) ∧ (takeP p n).1.pages = p.pages - tailP p + n ∧ (0 < tailP p → tailP p < n) ∧ PRel (takeP p n).1 (putW (p.pages - tailP p) n (-2) w)):=by
 have hc : cleanM p.free = p.free:=clean_of h.rf
 have n0 : ¬ n < 1:=by omega
 cases hfd : p.free.find? (takeB n) with
 | some y =>
  left
  have hs:=tookM_some (l:=p.free) (n:=n) (y:=y) (by rw [hc]; exact hfd)
  obtain ⟨e0,e1,e2,e3,e4,e5,e6⟩:=hs
  rw [hc] at e0 e1 e2 e3
  have e7 : takeP p n = ({ p with free:=dropM p.free (y.1,n) },y.1,0):=by
   unfold takeP
   rw [if_neg n0,e0,if_pos rfl]
  have my:=mayM_iff.1 e4
  have hy1:=h.rg y.1 (by rw [(h.free _).1 (in_first e3 e4)]; decide)
  have hy2:=h.rg _ (by rw [(h.free _).1 (in_last e3 e4)]; decide)
  have ex : endM y = y.1 + y.2:=rfl
  have hin : ∀ k,y.1 ≤ k → k < y.1 + n → w k = -1:=fun k h1 h2 => (h.free k).1 (inR_t.2 ⟨y,e3,h1,by omega⟩)
  have hw : ∀ k,(y.1 ≤ k ∧ k < y.1 + n) → putW y.1 n (-2) w k = -2:=fun k q => by unfold putW; rw [if_pos q]
  have hw' : ∀ k,¬ (y.1 ≤ k ∧ k < y.1 + n) → putW y.1 n (-2) w k = w k:=fun k q => by unfold putW; rw [if_neg q]
  refine ⟨y,e3,rfl,e6,by rw [e0],by rw [e7],by rw [e7],?_⟩
  rw [e7]
  refine ⟨h.lo,h.le,h.hi,e1,h.rh,fun k => ?_,h.key,fun z hz k => ?_,fun k hk => ?_,fun k hk => ?_,fun k => ?_⟩
  ·show inR (dropM p.free (y.1,n)) k = true ↔ _
   rw [e2]
   by_cases q : y.1 ≤ k ∧ k < y.1 + n
   ·rw [hw k q]
    simp [q.1,q.2]
   ·rw [hw' k q,← h.free]
    have : (decide (y.1 ≤ k) && decide (k < y.1 + n)) = false:=by
     rw [Bool.and_eq_false_iff,decide_eq_false_iff_not,decide_eq_false_iff_not]
     omega
    rw [this]
    simp
  ·rw [h.held z hz]
   have:=h.key z hz
   by_cases q : y.1 ≤ k ∧ k < y.1 + n
   ·rw [hw k q,hin k q.1 q.2]
    constructor <;> intro <;> omega
   ·rw [hw' k q]
  ·by_cases q : y.1 ≤ k ∧ k < y.1 + n
   ·rw [hw k q] at hk; omega
   ·rw [hw' k q] at hk ⊢; exact h.cov k hk
  ·by_cases q : y.1 ≤ k ∧ k < y.1 + n
   ·exact absurd (hw k q) hk
   ·rw [hw' k q] at hk; exact h.rg k hk
  ·by_cases q : y.1 ≤ k ∧ k < y.1 + n
   ·rw [hw k q]; omega
   ·rw [hw' k q]; exact h.ge k
 | none =>
  right
  have hs:=tookM_none (l:=p.free) (n:=n) (by rw [hc]; exact hfd)
  obtain ⟨t0,t1,t2,t3,t4⟩:=h.tail
  by_cases hf : n > p.limit - (p.pages - tailP p)
  ·left
   refine ⟨rfl,by rw [hs],hf,?_⟩
   unfold takeP takeF'
   rw [if_neg n0,hs,if_neg (by simp),if_pos hf]
  ·right
   have e7 : takeP p n = ({ p with free:=if tailP p > 0 then p.free.dropLast else p.free,pages:=p.pages - tailP p + n },p.pages - tailP p,0):=by
    unfold takeP takeF'
    rw [if_neg n0,hs,if_neg (by simp),if_neg hf]
   have tn : 0 < tailP p → tailP p < n:=fun q => by
    obtain ⟨l,y,hl,hy,_⟩:=t4 q
    rw [List.find?_eq_none] at hfd
    have:=hfd y (by rw [hl]; simp)
    unfold takeB at this
    rw [Bool.and_eq_true,decide_eq_true_eq,decide_eq_true_eq] at this
    omega
   refine ⟨rfl,by rw [hs],hf,by rw [e7],by rw [e7],tn,?_⟩
   rw [e7]
   generalize hA : p.pages - tailP p = A at *
   have hw : ∀ k,(A ≤ k ∧ k < A + n) → putW A n (-2) w k = -2:=fun k q => by unfold putW; rw [if_pos q]
   have hw' : ∀ k,¬ (A ≤ k ∧ k < A + n) → putW A n (-2) w k = w k:=fun k q => by unfold putW; rw [if_neg q]
   have hfr : rightM (if tailP p > 0 then p.free.dropLast else p.free) = true ∧ ∀ k,inR (if tailP p > 0 then p.free.dropLast else p.free) k = true ↔ putW A n (-2) w k = -1:=by
    by_cases q : tailP p > 0
    ·rw [if_pos q]
     obtain ⟨l,y,hl,hy,he⟩:=t4 q
     have hr:=h.rf
     unfold rightM at hr
     rw [hl,rgt_snoc] at hr
     rw [hl,List.dropLast_concat]
     refine ⟨hr.1,fun k => ?_⟩
     have hk:=h.free k
     rw [hl,inR_append,Bool.or_eq_true] at hk
     by_cases q' : A ≤ k ∧ k < A + n
     ·rw [hw k q']
      constructor
      ·intro e
       obtain ⟨z,hz,z1,z2⟩:=inR_t.1 e
       have:=hr.2.2.2 z hz
       omega
      ·intro e; omega
     ·rw [hw' k q',← hk]
      constructor
      ·exact .inl
      ·rintro (e | e)
       ·exact e
       ·exfalso
        rw [inR_cons,inR_nil,Bool.or_false,pinR_t] at e
        have ex : endM y = y.1 + y.2:=rfl
        have:=tn q
        omega
    ·rw [if_neg q]
     refine ⟨h.rf,fun k => ?_⟩
     by_cases q' : A ≤ k ∧ k < A + n
     ·rw [hw k q']
      constructor
      ·intro e
       have:=h.rg k (by rw [(h.free k).1 e]; decide)
       omega
      ·intro e; omega
     ·rw [hw' k q']; exact h.free k
   have hold : ∀ k,A ≤ k → 0 ≤ w k → False:=fun k h1 h2 => by
    have h3:=h.rg k (by omega)
    have:=t2 k h1 h3.2
    omega
   refine ⟨by show 2 ≤ A + n; omega,by show A + n ≤ p.limit; omega,h.hi,hfr.1,h.rh,hfr.2,h.key,fun z hz k => ?_,fun k hk => ?_,fun k hk => ?_,fun k => ?_⟩
   ·rw [h.held z hz]
    have:=h.key z hz
    by_cases q : A ≤ k ∧ k < A + n
    ·rw [hw k q]
     constructor
     ·intro e; exact (hold k q.1 (by omega)).elim
     ·intro e; omega
    ·rw [hw' k q]
   ·by_cases q : A ≤ k ∧ k < A + n
    ·rw [hw k q] at hk; omega
    ·rw [hw' k q] at hk ⊢; exact h.cov k hk
   ·show 2 ≤ k ∧ k < A + n
    by_cases q : A ≤ k ∧ k < A + n
    ·exact absurd (hw k q) hk
    ·rw [hw' k q] at hk
     have h3:=h.rg k hk
     refine ⟨h3.1,?_⟩
     by_cases q' : 0 < tailP p
     ·have:=tn q'; omega
     ·omega
   ·by_cases q : A ≤ k ∧ k < A + n
    ·rw [hw k q]; omega
    ·rw [hw' k q]; exact h.ge k
theorem PRel.grow {n : Int} (hn : 1 ≤ n) : (n > p.limit - p.pages ∧ growP p n = (p,0,12)) ∨ (¬ n > p.limit - p.pages ∧ growP p n = ({ p with pages:=p.pages + n },p.pages,0) ∧ PRel { p with pages:=p.pages + n } w):=by
 unfold growP
 rw [if_neg (by omega)]
 by_cases q : n > p.limit - p.pages
 ·left
  rw [if_pos q]
  exact ⟨q,rfl⟩
 ·right
  rw [if_neg q]
  have hlo:=h.lo
  exact ⟨q,rfl,by show 2 ≤ p.pages + n; omega,by show p.pages + n ≤ p.limit; omega,h.hi,h.rf,h.rh,h.free,h.key,h.held,h.cov,fun k hk => by have:=h.rg k hk; exact ⟨this.1,by show k < p.pages + n; omega⟩,h.ge⟩
end
def newW (f h : List RunM) (t : Int) (k : Int) : Int:=if inR f k = true then -1 else if inR h k = true then t else -2
theorem mayS_t {l : List RunM} (h : mayS l = true) : rightM l = true ∧ ∀ k,inR l k = true → 2 ≤ k ∧ k < endsM l:=by
 unfold mayS at h
 rw [Bool.and_eq_true,Bool.and_eq_true] at h
 obtain ⟨⟨h1,h2⟩,h3⟩:=h
 refine ⟨h1,fun k hk => ⟨?_,?_⟩⟩
 ·obtain ⟨x,hx,q1,q2⟩:=inR_t.1 hk
  cases l with
  | nil => cases hx
  | cons y l =>
   have h4 : 2 ≤ y.1:=by simpa [firstOk] using h3
   have hm:=mayM_iff.1 ((right_iff.1 h1).1 y (by simp))
   unfold rightM at h1
   rw [rgt_cons] at h1
   rcases List.mem_cons.1 hx with rfl | hx
   ·omega
   ·have:=rgt_lt h1.2.2 x hx
    have ex : endM y = y.1 + y.2:=rfl
    omega
 ·have:=endsM_is l
  rw [clean_of h1] at this
  exact this.1 k hk
theorem PRel.new {f h : List RunM} {t pages limit : Int} (ok : okNew f h t pages limit = true) : PRel (newP f h t pages limit) (newW f h t) ∧ HeldH (newP f h t pages limit).held [0] 1:=by
 unfold okNew rightS at ok
 simp only [Bool.and_eq_true,Bool.not_eq_true',decide_eq_true_eq,decide_eq_false_iff_not] at ok
 obtain ⟨⟨⟨⟨⟨⟨⟨a1,a2⟩,a3⟩,a4,a5⟩,a6⟩,a7⟩,a8⟩,a9⟩:=ok
 obtain ⟨f1,f2⟩:=mayS_t a1
 obtain ⟨h1,h2⟩:=mayS_t a2
 have dis : ∀ k,inR f k = true → inR h k = false:=fun k q => by
  cases e : inR h k with
  | false => rfl
  | true =>
   have : meetM f h = true:=meetM_iff.2 ⟨k,by rw [clean_of f1]; exact q,by rw [clean_of h1]; exact e⟩
   rw [a3] at this; cases this
 have hw : ∀ k,newW f h t k = -1 ↔ inR f k = true:=fun k => by
  unfold newW
  split
  ·rename_i q; simp [q]
  ·rename_i q
   split
   ·constructor
    ·intro e; omega
    ·intro e; exact absurd e q
   ·constructor
    ·intro e; omega
    ·intro e; exact absurd e q
 refine ⟨⟨by show 2 ≤ pages; omega,by show pages ≤ limit; omega,by show limit ≤ 16384; omega,f1,?_,fun k => (hw k).symm,?_,?_,fun k hk => ⟨(t,h),by simp [newP],?_⟩,fun k hk => ?_,fun k => ?_⟩,⟨rfl,by simp,by simp,by simp [newP],?_⟩⟩
 ·intro y hy
  simp [newP] at hy
  subst hy
  exact h1
 ·intro y hy
  simp [newP] at hy
  subst hy
  show 0 ≤ t
  omega
 ·intro y hy k
  simp [newP] at hy
  subst hy
  show inR h k = true ↔ newW f h t k = t
  unfold newW
  split
  ·rename_i q
   rw [dis k q]
   constructor
   ·intro e; cases e
   ·intro e; omega
  ·split
   ·rename_i q; simp [q]
   ·rename_i q
    constructor
    ·intro e; exact absurd e q
    ·intro e; omega
 ·unfold newW at hk ⊢
  split at hk
  ·omega
  ·rename_i q
   rw [if_neg q]
   split at hk
   ·rename_i q'; rw [if_pos q']
   ·omega
 ·show 2 ≤ k ∧ k < pages
  unfold newW at hk
  split at hk
  ·rename_i q; have:=f2 k q; omega
  ·split at hk
   ·rename_i q; have:=h2 k q; omega
   ·exact absurd rfl hk
 ·unfold newW
  split
  ·omega
  ·split <;> omega
 ·intro x hx
  simp [newP] at hx
  subst hx
  exact h1
end Go.VI
namespace Go.VI
attribute [local congr] AW_congr OW_congr DW_congr NW_congr VW_congr GW_congr PW_congr KW_congr ite_congr' GV_congr CV_congr KF_congr
theorem take_held (p : PoolM) (n : Int) : (takeP p n).1.held = p.held:=by
 unfold takeP takeF'
 split
 ·rfl
 ·split
  ·rfl
  ·split <;> rfl
theorem same_refl (l : List RunM) : sameM l l = true:=by simp [sameM]
end Go.VI
namespace Go.VI
attribute [local congr] AW_congr OW_congr DW_congr NW_congr VW_congr GW_congr PW_congr KW_congr ite_congr' GV_congr CV_congr KF_congr
theorem mayS_of {l : List RunM} {n : Int} (h1 : rightM l = true) (h2 : ∀ k,inR l k = true → 2 ≤ k ∧ k < n) (h0 : 0 ≤ n) (hn : n ≤ 16384) : mayS l = true ∧ endsM l ≤ n:=by
 have he : endsM l ≤ n:=by
  rcases (endsM_is l).2 with ⟨e,_⟩ | ⟨_,e⟩
  ·omega
  ·rw [clean_of h1] at e
   have:=h2 _ e
   omega
 refine ⟨?_,he⟩
 unfold mayS
 rw [h1,decide_eq_true (show endsM l ≤ 16384 by omega)]
 cases l with
 | nil => rfl
 | cons x l =>
  have:=h2 x.1 (in_first (by simp) ((right_iff.1 h1).1 x (by simp)))
  simp [firstOk,this.1]
section
variable {p : PoolM} {w : Int → Int} (h : PRel p w)
include h
theorem PRel.takeX (n : Int) : (∃ w',PRel (takeP p n).1 w') ∧ (takeP p n).1.limit = p.limit:=by
 refine ⟨?_,?_⟩
 ·by_cases hn : n < 1
  ·refine ⟨w,?_⟩
   unfold takeP
   rw [if_pos hn]
   exact h
  ·rcases h.take (n:=n) (by omega) with ⟨y,_,_,_,_,_,_,e⟩ | ⟨_,_,_,e⟩ | ⟨_,_,_,_,_,_,e⟩
   ·exact ⟨_,e⟩
   ·rw [e]; exact ⟨_,h⟩
   ·exact ⟨_,e⟩
 ·unfold takeP takeF'
  split
  ·rfl
  ·split
   ·rfl
   ·split <;> rfl
end
def sqA : ACode → ACode
 | .seq a _ => a
 | c => c
def sqB : ACode → ACode
 | .seq _ b => b
 | .block _ c => c
 | c => c
section
variable {K : Heap} {pid mid bid j : Nat} {p : PoolM} {w : Int → Int} {bs : List Nat} {ck : Nat} (hp : PoolH K pid mid p bs ck) (hr : PRel p w) {o : OpM} (hj : K.get j = some (.box false (pOpC o))) {f : Nat → AV}
 (h7 : f 7 = .ptr pid 0 0) (h10 : f 10 = .ptr j 0 0) {Q : AExit → Env → Heap → Prop}
include hp hr hj h7 h10
end
end Go.VI
namespace Go.VI
attribute [local congr] AW_congr OW_congr DW_congr NW_congr VW_congr GW_congr PW_congr KW_congr ite_congr' GV_congr CV_congr KF_congr
def WM (n : Nat) (w : Int → Int) : List Int:=(List.range n).map fun (k : Nat) => w (k : Int)
theorem WM_len (n : Nat) (w : Int → Int) : (WM n w).length = n:=by simp [WM]
theorem WM_at {n : Nat} {w : Int → Int} {k : Nat} (h : k < (WM n w).length) : (WM n w)[k] = w k:=by simp [WM]
theorem WM_congr {n : Nat} {v w : Int → Int} (h : ∀ k : Nat,k < n → v k = w k) : WM n v = WM n w:=by
 unfold WM
 exact List.map_congr_left fun p hp => h p (List.mem_range.1 hp)
theorem WM_succ (n : Nat) (w : Int → Int) : WM (n + 1) w = WM n w ++ [w n]:=by simp [WM,List.range_succ]
theorem WM_set {n : Nat} {w : Int → Int} {k : Nat} {v : Int} (h : k < n) : (WM n w).set k v = WM n (putW k 1 v w):=by
 refine List.ext_getElem (by rw [List.length_set,WM_len,WM_len]) fun i h1 h2 => ?_
 rw [List.getElem_set,WM_at,WM_at]
 unfold putW
 split
 ·rw [if_pos (by omega)]
 ·rw [if_neg (by omega)]
def encD (W : List Int) (lim : Int) : AV:=.agg [encN W,int lim]
theorem put_step (a : Int) (n : Nat) (v : Int) (w : Int → Int) (k : Int) : putW a (n + 1 : Nat) v w k = putW (a + n) 1 v (putW a n v w) k:=by
 unfold putW
 split
 ·split
  ·rfl
  ·rw [if_pos (by omega)]
 ·rw [if_neg (by omega),if_neg (by omega)]
theorem put_iff {a n a' n' v : Int} {w : Int → Int} {k : Int} (h : (a ≤ k ∧ k < a + n) ↔ (a' ≤ k ∧ k < a' + n')) : putW a n v w k = putW a' n' v w k:=by
 unfold putW
 split
 ·rename_i q; rw [if_pos (h.1 q)]
 ·rename_i q; rw [if_neg (fun e => q (h.2 e))]
theorem l131 (v : Int) (a n : Nat) (hb : a + n ≤ 1000000) (B0 B1 : Blk) (N : Nat) (hN : N ≤ 1000000) (w : Int → Int) (haN : a ≤ N) (n0 : ∀ r, B0 ≠ .row false 1 r) (n1 : ∀ r, B1 ≠ .row false 1 r) {Q : AExit → Env → Heap → Prop}
   (hex : ∀ f' K sid, K.get sid = some (.row false 1 ((WM (max N (a + n)) (putW a n v w)).map numC)) → K.get 0 = some B0 → K.get 1 = some B1 → f' 4 = .ptr 0 0 0 → f' 8 = .ptr 1 0 0 → f' 9 = .sl sid 0 (max N (a + n)) → Q (.exit 0) (mkE 38 f') (hx K [])) :
   ∀ (d i : Nat) (sid : Nat) (K : Heap) (f : Nat → AV), i + d = n → K.get sid = some (.row false 1 ((WM (max N (a + i)) (putW a i v w)).map numC)) → K.get 0 = some B0 → K.get 1 = some B1 → f 4 = .ptr 0 0 0 → f 8 = .ptr 1 0 0 → f 9 = .sl sid 0 (max N (a + i)) →
    f 1 = int a → f 2 = int n → f 3 = int v → f 10 = int (a + i : Nat) → AW ftB (.loop c131L0) (mkE 38 f) (hx K []) Q := by
  intro d
  induction d with
  | zero =>
    intro i sid K f hd hs h0 h1 f4 f8 f9 q1 q2 q3 q10
    have w0 : IntKind.i64.wrap ((a : Int) + n) = a + n := wrap_i64 (by omega)
    have g1 : (((a + i : Nat) : Int) < (a : Int) + n) = False := eq_false (by omega)
    rw [AW_loop]
    unfold c131L0
    obtain rfl : i = n := by omega
    simp only [↓vp, vz, Nat.reduceLT, Nat.reduceEqDiff, Nat.reduceLeDiff, Nat.reduceAdd, Nat.reduceSub, Nat.reduceMul, Int.reduceBEq, Int.reduceBNe, Int.reduceLT, Int.reduceLE, Int.reduceEq, reduceIte, reduceCtorEq, da, int, boolA, q1, q2, q10, w0, g1]
    refine hex _ K sid hs h0 h1 ?_ ?_ ?_ <;> simp only [↓vp, vz, Nat.reduceLT, Nat.reduceEqDiff, Nat.reduceLeDiff, Nat.reduceAdd, Nat.reduceSub, Nat.reduceMul, Int.reduceBEq, Int.reduceBNe, Int.reduceLT, Int.reduceLE, Int.reduceEq, reduceIte, reduceCtorEq, da, int, boolA, f4, f8, f9]
  | succ d ih =>
    intro i sid K f hd hs h0 h1 f4 f8 f9 q1 q2 q3 q10
    have w0 : IntKind.i64.wrap ((a : Int) + n) = a + n := wrap_i64 (by omega)
    have w1 : IntKind.i64.wrap (((a + i : Nat) : Int) + 1) = ((a + (i + 1) : Nat) : Int) := by rw [wrap_i64 (by omega)]; omega
    have g1 : (((a + i : Nat) : Int) < (a : Int) + n) = True := eq_true (by omega)
    have lsid := Heap.get_lt hs
    have ln : ∀ H id m, lenV H 0 (.sl id 0 m) = some (.sc (.int .i64 (m : Nat)), H) := fun _ _ _ => rfl
    rw [AW_loop]
    unfold c131L0
    by_cases c : a + i = max N (a + i)
    · have e1 : (((a + i : Nat) : Int) == ((max N (a + i) : Nat) : Int)) = true := by rw [← c]; simp
      have hr : Rep K 1 (.sl sid 0 (max N (a + i))) ((WM (max N (a + i)) (putW a i v w)).map numC) := .inr ⟨sid, by rw [List.length_map, WM_len], hs⟩
      have hlen : ((WM (max N (a + i)) (putW a i v w)).map numC).length = max N (a + i) := by rw [List.length_map, WM_len]
      have lnS : ∀ H, lenV H 0 (.sl sid 0 (max N (a + i))) = some (.sc (.int .i64 ((max N (a + i) : Nat) : Int)), H) := fun H => rfl
      have k0 : (kill K (.sl sid 0 (max N (a + i)))).get 0 = some B0 := kill_get hr h0 n0
      have k1 : (kill K (.sl sid 0 (max N (a + i)))).get 1 = some B1 := kill_get hr h1 n1
      have kn := kill_next K (.sl sid 0 (max N (a + i)))
      have ap := fun nid L => appA_rep (nid := nid) (bytes := 8) hr (xs := [numC v]) (by simp) rfl (by rw [hlen]; simp; omega) L
      rw [hlen] at ap
      generalize (AV.sl sid 0 (max N (a + i))) = S at *
      generalize kill K S = K' at *
      have em : max N (a + i) + 1 = max N (a + (i + 1)) := by omega
      simp only [numC, int, List.length_singleton, em] at ap
      have hw : (WM (max N (a + i)) (putW a i v w)).map numC ++ [[.sc (.int .i64 v)]] = (WM (max N (a + (i + 1))) (putW a (i + 1 : Nat) v w)).map numC := by
        rw [← em, WM_succ, List.map_append, ← c]
        congr 1
        · congr 1
          exact WM_congr fun k hk => put_iff (by omega)
        · show [[int v]] = [[int _]]
          unfold putW
          rw [if_pos (by omega)]
      rw [hw] at ap
      have hw2 : ((WM (max N (a + (i + 1))) (putW a (i + 1 : Nat) v w)).map numC).set (a + i) [.sc (.int .i64 v)] = (WM (max N (a + (i + 1))) (putW a (i + 1 : Nat) v w)).map numC := by
        rw [show [.sc (.int .i64 v)] = numC v from rfl, ← List.map_set, WM_set (by omega)]
        congr 1
        exact WM_congr fun k hk => by
          unfold putW
          split
          · rw [if_pos (by omega)]
          · rfl
      have ia := fun x L => @ia_row (hx K' (x :: .row false 1 ((WM (max N (a + (i + 1))) (putW a (i + 1 : Nat) v w)).map numC) :: L)) (K.next + 1) (max N (a + (i + 1))) 1 (a + i) false _ (by rw [← kn]; exact hx_get _ _ 1) (by omega)
      have g1' := fun x y L => hx_get K' (x :: y :: L) 1
      simp only [kn] at g1'
      have s1' := fun x y L b => hx_set K' (x :: y :: L) b 1
      simp only [kn] at s1'
      have gn : ∀ (m : Nat) (w' : Int → Int) (k : Nat), k < m → ((WM m w').map numC)[k]? = some (numC (w' k)) := fun m w' k hk => by
        rw [List.getElem?_map, List.getElem?_eq_getElem (by rw [WM_len]; exact hk), WM_at]; rfl
      have gk := gn (max N (a + (i + 1))) (putW a (i + 1 : Nat) v w) (a + i) (by omega)
      simp only [numC, int] at gk
      simp only [↓vp, vz, Nat.reduceLT, Nat.reduceEqDiff, Nat.reduceLeDiff, Nat.reduceAdd, Nat.reduceSub, Nat.reduceMul, Int.reduceBEq, Int.reduceBNe, Int.reduceLT, Int.reduceLE, Int.reduceEq, reduceIte, reduceCtorEq, da, int, boolA, dr, q1, q2, q3, q10, f4, f8, f9, w0, w1, g1, lnS, e1, ap, kn, ia, g1', s1', hw2, gk]
      rw [← hx_nil (hx _ _)]
      refine ih (i + 1) (K.next + 1) _ _ (by omega) ?_ (get_old k0 _) (get_old k1 _) ?_ ?_ ?_ ?_ ?_ ?_ ?_
      · rw [← kn]; exact hx_get _ _ 1
      all_goals simp only [↓vp, vz, Nat.reduceLT, Nat.reduceEqDiff, Nat.reduceLeDiff, Nat.reduceAdd, Nat.reduceSub, Nat.reduceMul, Int.reduceBEq, Int.reduceBNe, Int.reduceLT, Int.reduceLE, Int.reduceEq, reduceIte, reduceCtorEq, da, int, boolA, f4, f8, q1, q2, q3]
    · have e1 : (((a + i : Nat) : Int) == ((max N (a + i) : Nat) : Int)) = false := by simp; omega
      have ia := fun L => @ia_row (hx K L) sid (max N (a + i)) 1 (a + i) false _ (get_old hs L) (by omega)
      have gg := fun L => get_old hs L
      have gs : ∀ L b, (hx K L).set sid b = hx (K.set sid b) L := fun L b => hx_set_old K L b sid lsid
      have gn : ∀ (m : Nat) (w' : Int → Int) (k : Nat), k < m → ((WM m w').map numC)[k]? = some (numC (w' k)) := fun m w' k hk => by
        rw [List.getElem?_map, List.getElem?_eq_getElem (by rw [WM_len]; exact hk), WM_at]; rfl
      have gk := gn (max N (a + i)) (putW a i v w) (a + i) (by omega)
      simp only [numC, int] at gk
      have em : max N (a + i) = max N (a + (i + 1)) := by omega
      have hw2 : ((WM (max N (a + i)) (putW a i v w)).map numC).set (a + i) [.sc (.int .i64 v)] = (WM (max N (a + (i + 1))) (putW a (i + 1 : Nat) v w)).map numC := by
        rw [show [.sc (.int .i64 v)] = numC v from rfl, ← List.map_set, WM_set (by omega), ← em]
        congr 1
        refine WM_congr fun k hk => ?_
        rw [put_step]
        congr 1
      have ne0 : sid ≠ 0 := fun e => by rw [e, h0] at hs; exact n0 _ (by injection hs)
      have ne1 : sid ≠ 1 := fun e => by rw [e, h1] at hs; exact n1 _ (by injection hs)
      simp only [↓vp, vz, Nat.reduceLT, Nat.reduceEqDiff, Nat.reduceLeDiff, Nat.reduceAdd, Nat.reduceSub, Nat.reduceMul, Int.reduceBEq, Int.reduceBNe, Int.reduceLT, Int.reduceLE, Int.reduceEq, reduceIte, reduceCtorEq, da, int, boolA, dr, q1, q2, q3, q10, f4, f8, f9, w0, w1, g1, ln, e1, ia, gg, gs, gk, hw2]
      refine ih (i + 1) sid _ _ (by omega) (Heap.get_set_self _ lsid) ?_ ?_ ?_ ?_ ?_ ?_ ?_ ?_ ?_
      · rw [Heap.get_set_ne _ (Ne.symm ne0)]; exact h0
      · rw [Heap.get_set_ne _ (Ne.symm ne1)]; exact h1
      all_goals simp only [↓vp, vz, Nat.reduceLT, Nat.reduceEqDiff, Nat.reduceLeDiff, Nat.reduceAdd, Nat.reduceSub, Nat.reduceMul, Int.reduceBEq, Int.reduceBNe, Int.reduceLT, Int.reduceLE, Int.reduceEq, reduceIte, reduceCtorEq, da, int, boolA, f4, f8, f9, q1, q2, q3, em]
theorem numC_sz (l : List Int) : allSz 1 (l.map numC) = true:=by
 unfold allSz
 rw [List.all_eq_true]
 intro x hx
 rw [List.mem_map] at hx
 obtain ⟨y,-,rfl⟩:=hx
 rfl
theorem frz_D {H : Heap} {sid m : Nat} {L : List Int} (hs : H.get sid = some (.row false 1 (L.map numC))) (hl : L.length = m) (lim : Int) : ∃ H',frz FZ H (.agg [.sl sid 0 m,.sc (.int .i64 lim)]) = some (encD L lim,H'):=by
 have h:=frz_rep (K:=H) (L:=[]) (sz:=1) (S:=.sl sid 0 m) (rows:=L.map numC) (by rw [hx_nil]; exact .inr ⟨sid,by rw [List.length_map,hl],hs⟩) 21
 rw [hx_nil] at h
 obtain ⟨H',e⟩:=h
 refine ⟨H',?_⟩
 rw [show FZ = 24 from rfl,frz_agg,frzL_cons,e]
 rfl
theorem s131 (N : Nat) (hN : N ≤ 1000000) (h0 : 0 < N) (w : Int → Int) (lim : Int) (a n : Nat) (haN : a ≤ N) (hb : a + n ≤ 1000000) (v : Int) (H : Heap) :
  callL ftB (.fn (.func 131) [] []) [encD (WM N w) lim,int a,int n,int v] H = some (encD (WM (max N (a + n)) (putW a n v w)) lim,H):=by
 refine call_p (as':=[encD (WM N w) lim,int a,int n,int v]) rfl rfl (by simp) ?_
 unfold c131 r131 encD
 have a1 : ∀ nid H,appA nid H 1 8 .emp ((WM N w).map numC) = some (.sl nid 0 N,H.put nid (.row false 1 ((WM N w).map numC))):=fun nid H => by
  rw [appA_emp,List.length_map,WM_len,if_neg (by omega),if_pos ⟨by omega,numC_sz _⟩]
 have r0 : ∀ H (l : List Int),rowsOf H (encN l) = some (l.map numC):=fun _ _ => rfl
 simp only [↓vp,vz,Nat.reduceLT,Nat.reduceEqDiff,Nat.reduceLeDiff,Nat.reduceAdd,Nat.reduceSub,Nat.reduceMul,Int.reduceBEq,Int.reduceBNe,Int.reduceLT,Int.reduceLE,Int.reduceEq,reduceIte,reduceCtorEq,da,int,boolA,dr,r0,a1]
 rw [← hx_nil (hx Heap.empty _)]
 refine l131 v a n hb (.box false [encN (WM N w),int lim]) (.box false [.sc (.slice none 0 0),int 0]) N hN w haN (by simp) (by simp) (fun f' K sid hs h0 h1 f4 f8 f9 => ?_) n 0 3 _ _ (by simp) ?_ rfl rfl ?_ ?_ ?_ ?_ ?_ ?_ ?_
 rotate_left
 ·rw [show max N (a + 0) = N by omega]
  rw [show WM N (putW a (0 : Nat) v w) = WM N w from WM_congr fun k hk => by unfold putW; rw [if_neg (by omega)]]
  rfl
 ·simp only [↓vp,vz,Nat.reduceLT,Nat.reduceEqDiff,Nat.reduceLeDiff,Nat.reduceAdd,Nat.reduceSub,Nat.reduceMul,Int.reduceBEq,Int.reduceBNe,Int.reduceLT,Int.reduceLE,Int.reduceEq,reduceIte,reduceCtorEq,da,int,boolA]
 ·simp only [↓vp,vz,Nat.reduceLT,Nat.reduceEqDiff,Nat.reduceLeDiff,Nat.reduceAdd,Nat.reduceSub,Nat.reduceMul,Int.reduceBEq,Int.reduceBNe,Int.reduceLT,Int.reduceLE,Int.reduceEq,reduceIte,reduceCtorEq,da,int,boolA]
 ·simp only [↓vp,vz,Nat.reduceLT,Nat.reduceEqDiff,Nat.reduceLeDiff,Nat.reduceAdd,Nat.reduceSub,Nat.reduceMul,Int.reduceBEq,Int.reduceBNe,Int.reduceLT,Int.reduceLE,Int.reduceEq,reduceIte,reduceCtorEq,da,int,boolA]
  rw [show max N a = N by omega]
 ·simp only [↓vp,vz,Nat.reduceLT,Nat.reduceEqDiff,Nat.reduceLeDiff,Nat.reduceAdd,Nat.reduceSub,Nat.reduceMul,Int.reduceBEq,Int.reduceBNe,Int.reduceLT,Int.reduceLE,Int.reduceEq,reduceIte,reduceCtorEq,da,int,boolA]
 ·simp only [↓vp,vz,Nat.reduceLT,Nat.reduceEqDiff,Nat.reduceLeDiff,Nat.reduceAdd,Nat.reduceSub,Nat.reduceMul,Int.reduceBEq,Int.reduceBNe,Int.reduceLT,Int.reduceLE,Int.reduceEq,reduceIte,reduceCtorEq,da,int,boolA]
 ·simp only [↓vp,vz,Nat.reduceLT,Nat.reduceEqDiff,Nat.reduceLeDiff,Nat.reduceAdd,Nat.reduceSub,Nat.reduceMul,Int.reduceBEq,Int.reduceBNe,Int.reduceLT,Int.reduceLE,Int.reduceEq,reduceIte,reduceCtorEq,da,int,boolA]
 ·simp only [↓vp,vz,Nat.reduceLT,Nat.reduceEqDiff,Nat.reduceLeDiff,Nat.reduceAdd,Nat.reduceSub,Nat.reduceMul,Int.reduceBEq,Int.reduceBNe,Int.reduceLT,Int.reduceLE,Int.reduceEq,reduceIte,reduceCtorEq,da,int,boolA]
  try rfl
 have l0:=Heap.get_lt h0
 have l1:=Heap.get_lt h1
 have ne0 : sid ≠ 0:=fun e => by rw [e,h0] at hs; cases hs
 have ne1 : sid ≠ 1:=fun e => by rw [e,h1] at hs; cases hs
 have y0:=fun L => get_old h0 L
 have y1:=fun L => get_old h1 L
 have gs0 : ∀ L b,(hx K L).set 0 b = hx (K.set 0 b) L:=fun L b => hx_set_old _ L b 0 l0
 have z0 : ∀ b L,(hx (K.set 0 b) L).get 0 = some b:=fun b L => get_old (Heap.get_set_self _ l0) L
 have z1 : ∀ b L,(hx (K.set 0 b) L).get 1 = _:=fun b L => get_old (by rw [Heap.get_set_ne _ (by decide)]; exact h1) L
 have gs1 : ∀ L b c,(hx (K.set 0 c) L).set 1 b = hx ((K.set 0 c).set 1 b) L:=fun L b c => hx_set_old _ L b 1 (by rw [Heap.next_set]; exact l1)
 have z2 : ∀ b c L,(hx ((K.set 0 c).set 1 b) L).get 1 = some b:=fun b c L => get_old (Heap.get_set_self _ (by rw [Heap.next_set]; exact l1)) L
 simp only [int] at y0 y1 z1
 unfold c131R1
 simp only [↓vp,vz,Nat.reduceLT,Nat.reduceEqDiff,Nat.reduceLeDiff,Nat.reduceAdd,Nat.reduceSub,Nat.reduceMul,Int.reduceBEq,Int.reduceBNe,Int.reduceLT,Int.reduceLE,Int.reduceEq,reduceIte,reduceCtorEq,da,int,boolA,dr,f4,f8,f9,y0,y1,gs0,z0,z1,gs1,z2]
 refine RetP_go.2 ⟨rfl,?_⟩
 rw [resC,resN,if_pos (by decide)]
 simp only [↓vp,vz,Nat.reduceLT,Nat.reduceEqDiff,Nat.reduceLeDiff,Nat.reduceAdd,Nat.reduceSub,Nat.reduceMul,Int.reduceBEq,Int.reduceBNe,Int.reduceLT,Int.reduceLE,Int.reduceEq,reduceIte,reduceCtorEq,da,int,boolA,f8,z2]
 simp only [retV1]
 have hz : ((K.set 0 (.box false [.sl sid 0 (max N (a + n)),.sc (.int .i64 lim)])).set 1 (.box false [.sl sid 0 (max N (a + n)),.sc (.int .i64 lim)])).get sid = some (.row false 1 ((WM (max N (a + n)) (putW a n v w)).map numC)):=by
  rw [Heap.get_set_ne _ ne1,Heap.get_set_ne _ ne0]
  exact hs
 obtain ⟨H',e⟩:=frz_D hz (WM_len _ _) lim
 rw [hx_nil,e]
 rfl
theorem tabC_succ (n : Nat) (g : Nat → Bool) : tabC (n + 1) g = tabC n g ++ [[.sc (.bool (g n))]]:=by
 simp [tabC,tab,List.range_succ]
 rfl
section
variable (N : Nat) (hN : N ≤ 32768) (w : Int → Int) (lim : Int)
include hN
theorem l127 (t : Int) (g : Nat → Bool) (hg : ∀ k : Nat, g k = (w k == t || (t == -3 && decide (w k ≥ 0)))) {Q : AExit → Env → Heap → Prop}
   (hex : ∀ f' K S, Rep K 1 S (tabC N g) → f' 5 = S → Q (.exit 0) (mkE 38 f') (hx K [])) :
   ∀ (d i : Nat) (S : AV) (K : Heap) (f : Nat → AV), i + d = N → Rep K 1 S (tabC i g) → K.get 0 = some (.box false [encN (WM N w), int lim]) → f 1 = int t → f 2 = .ptr 0 0 0 → f 5 = S → f 6 = int i →
    AW ftB (.loop c127L0) (mkE 38 f) (hx K []) Q := by
  intro d
  induction d with
  | zero =>
    intro i S K f hd hr h0 f1 f2 f5 f6
    have g : ((i : Int) < N) = False := eq_false (by omega)
    have y0 := fun L => get_old h0 L
    have lw := WM_len N w
    obtain rfl : i = N := by omega
    rw [AW_loop]
    unfold c127L0
    simp only [int] at y0
    simp only [↓vp, vz, Nat.reduceLT, Nat.reduceEqDiff, Nat.reduceLeDiff, Nat.reduceAdd, Nat.reduceSub, Nat.reduceMul, Int.reduceBEq, Int.reduceBNe, Int.reduceLT, Int.reduceLE, Int.reduceEq, reduceIte, reduceCtorEq, da, int, boolA, dr, f2, f6, y0, lw, g]
    refine hex _ K S hr ?_
    simp only [↓vp, vz, Nat.reduceLT, Nat.reduceEqDiff, Nat.reduceLeDiff, Nat.reduceAdd, Nat.reduceSub, Nat.reduceMul, Int.reduceBEq, Int.reduceBNe, Int.reduceLT, Int.reduceLE, Int.reduceEq, reduceIte, reduceCtorEq, da, int, boolA, f5]
  | succ d ih =>
    intro i S K f hd hr h0 f1 f2 f5 f6
    have g1 : ((i : Int) < N) = True := eq_true (by omega)
    have y0 := fun L => get_old h0 L
    have lw := WM_len N w
    have gi : i < (WM N w).length := by omega
    have w1 := wrap_succ (show i < 9223372036854775807 by omega)
    have a0 := fun H => @atN H (WM N w) i gi
    have b0 := fun H off n => @cN H (WM N w) i off n gi
    rw [WM_at gi] at b0
    have ap := fun b nid L => appA_rep (nid := nid) (bytes := 1) hr (xs := [[AV.sc (.bool b)]]) (by simp) rfl (by rw [tabC_len]; simp; omega) L
    rw [tabC_len] at ap
    have k0 : (kill K S).get 0 = _ := kill_get hr h0 (by simp)
    have ht := tabC_succ i g
    rw [AW_loop]
    unfold c127L0
    simp only [int] at y0
    simp only [numC, int] at b0
    simp only [List.length_singleton] at ap
    have fin : ∀ (b : Bool) (x : Blk) (f' : Nat → AV), g i = b → f' 1 = int t → f' 2 = .ptr 0 0 0 → f' 5 = .sl (K.next + 1) 0 (i + 1) → f' 6 = int (i + 1 : Nat) →
        AW ftB (.loop c127L0) (mkE 38 f') (hx (kill K S) [x, .row false 1 (tabC i g ++ [[.sc (.bool b)]])]) Q := fun b x f' hb e1 e2 e5 e6 => by
      rw [← hx_nil (hx _ _)]
      refine ih (i + 1) (.sl (K.next + 1) 0 (i + 1)) _ _ (by omega) (.inr ⟨K.next + 1, by rw [tabC_len], ?_⟩) (get_old k0 _) e1 e2 e5 e6
      rw [ht]
      simp only [hb]
      rw [← kill_next K S]
      exact hx_get _ _ 1
    cases c1 : (w i == t) with
    | true =>
      simp only [↓vp, vz, Nat.reduceLT, Nat.reduceEqDiff, Nat.reduceLeDiff, Nat.reduceAdd, Nat.reduceSub, Nat.reduceMul, Int.reduceBEq, Int.reduceBNe, Int.reduceLT, Int.reduceLE, Int.reduceEq, reduceIte, reduceCtorEq, da, int, boolA, dr, f1, f2, f5, f6, y0, lw, g1, a0, b0, w1, c1, ap, kill_next]
      refine fin true _ _ (by rw [hg, c1]; rfl) ?_ ?_ ?_ ?_ <;> simp only [↓vp, vz, Nat.reduceLT, Nat.reduceEqDiff, Nat.reduceLeDiff, Nat.reduceAdd, Nat.reduceSub, Nat.reduceMul, Int.reduceBEq, Int.reduceBNe, Int.reduceLT, Int.reduceLE, Int.reduceEq, reduceIte, reduceCtorEq, da, int, boolA, f1, f2]
    | false =>
      cases c2 : (t == -3) with
      | true =>
        by_cases c3 : w i ≥ 0
        · have d1 : (w i ≥ 0) = True := eq_true c3
          have d2 : (0 ≤ w i) = True := eq_true c3
          simp only [↓vp, vz, Nat.reduceLT, Nat.reduceEqDiff, Nat.reduceLeDiff, Nat.reduceAdd, Nat.reduceSub, Nat.reduceMul, Int.reduceBEq, Int.reduceBNe, Int.reduceLT, Int.reduceLE, Int.reduceEq, reduceIte, reduceCtorEq, da, int, boolA, dr, f1, f2, f5, f6, y0, lw, g1, a0, b0, w1, c1, c2, d1, d2, ap, kill_next]
          refine fin true _ _ (by rw [hg, c1, c2, decide_eq_true c3]; rfl) ?_ ?_ ?_ ?_ <;> simp only [↓vp, vz, Nat.reduceLT, Nat.reduceEqDiff, Nat.reduceLeDiff, Nat.reduceAdd, Nat.reduceSub, Nat.reduceMul, Int.reduceBEq, Int.reduceBNe, Int.reduceLT, Int.reduceLE, Int.reduceEq, reduceIte, reduceCtorEq, da, int, boolA, f1, f2]
        · have d1 : (w i ≥ 0) = False := eq_false c3
          have d2 : (0 ≤ w i) = False := eq_false c3
          simp only [↓vp, vz, Nat.reduceLT, Nat.reduceEqDiff, Nat.reduceLeDiff, Nat.reduceAdd, Nat.reduceSub, Nat.reduceMul, Int.reduceBEq, Int.reduceBNe, Int.reduceLT, Int.reduceLE, Int.reduceEq, reduceIte, reduceCtorEq, da, int, boolA, dr, f1, f2, f5, f6, y0, lw, g1, a0, b0, w1, c1, c2, d1, d2, ap, kill_next]
          refine fin false _ _ (by rw [hg, c1, c2, decide_eq_false c3]; rfl) ?_ ?_ ?_ ?_ <;> simp only [↓vp, vz, Nat.reduceLT, Nat.reduceEqDiff, Nat.reduceLeDiff, Nat.reduceAdd, Nat.reduceSub, Nat.reduceMul, Int.reduceBEq, Int.reduceBNe, Int.reduceLT, Int.reduceLE, Int.reduceEq, reduceIte, reduceCtorEq, da, int, boolA, f1, f2]
      | false =>
        simp only [↓vp, vz, Nat.reduceLT, Nat.reduceEqDiff, Nat.reduceLeDiff, Nat.reduceAdd, Nat.reduceSub, Nat.reduceMul, Int.reduceBEq, Int.reduceBNe, Int.reduceLT, Int.reduceLE, Int.reduceEq, reduceIte, reduceCtorEq, da, int, boolA, dr, f1, f2, f5, f6, y0, lw, g1, a0, b0, w1, c1, c2, ap, kill_next]
        refine fin false _ _ (by rw [hg, c1, c2]; rfl) ?_ ?_ ?_ ?_ <;> simp only [↓vp, vz, Nat.reduceLT, Nat.reduceEqDiff, Nat.reduceLeDiff, Nat.reduceAdd, Nat.reduceSub, Nat.reduceMul, Int.reduceBEq, Int.reduceBNe, Int.reduceLT, Int.reduceLE, Int.reduceEq, reduceIte, reduceCtorEq, da, int, boolA, f1, f2]
end
theorem kB48 {K : Heap} {id n : Nat} {f : Nat → Bool} (hg : K.get id = some (.row false 1 (tabC n f))) (hn : n ≤ 100000) {L : List Blk} {Q : AV → Heap → Prop} :
  KW ftB (.fn (.func 48) [] []) [.sl id 0 n] (hx K L) Q ↔ Q (encR (runsM (tab n f))) (hx (K.set id (.row true 1 (tabC n f))) L) :=
 KW_of (p48 rfl (tab n f) (by rw [tab_len]; exact hn) (frz_tab hg L))
theorem s127 (N : Nat) (h0 : 0 < N) (hN : N ≤ 32768) (w : Int → Int) (lim t : Int) (H : Heap) :
  callL ftB (.fn (.func 127) [] []) [encD (WM N w) lim,int t] H = some (encR (runsM (tab N fun k => w k == t || (t == -3 && decide (w k ≥ 0)))),H):=by
 refine call_p (as':=[encD (WM N w) lim,int t]) rfl rfl (by simp) ?_
 unfold c127 r127 encD
 simp only [↓vp,vz,Nat.reduceLT,Nat.reduceEqDiff,Nat.reduceLeDiff,Nat.reduceAdd,Nat.reduceSub,Nat.reduceMul,Int.reduceBEq,Int.reduceBNe,Int.reduceLT,Int.reduceLE,Int.reduceEq,reduceIte,reduceCtorEq,da,int,boolA,dr]
 rw [← hx_nil (hx Heap.empty _)]
 refine l127 N hN w lim t (fun k => w k == t || (t == -3 && decide (w k ≥ 0))) (fun _ => rfl) (fun f' K S hr f5 => ?_) N 0 (.sc (.slice none 0 0)) _ _ (by simp) (.inl ⟨rfl,rfl⟩) rfl ?_ ?_ ?_ ?_
 rotate_left
 ·simp only [↓vp,vz,Nat.reduceLT,Nat.reduceEqDiff,Nat.reduceLeDiff,Nat.reduceAdd,Nat.reduceSub,Nat.reduceMul,Int.reduceBEq,Int.reduceBNe,Int.reduceLT,Int.reduceLE,Int.reduceEq,reduceIte,reduceCtorEq,da,int,boolA]
  try rfl
 ·simp only [↓vp,vz,Nat.reduceLT,Nat.reduceEqDiff,Nat.reduceLeDiff,Nat.reduceAdd,Nat.reduceSub,Nat.reduceMul,Int.reduceBEq,Int.reduceBNe,Int.reduceLT,Int.reduceLE,Int.reduceEq,reduceIte,reduceCtorEq,da,int,boolA]
 ·simp only [↓vp,vz,Nat.reduceLT,Nat.reduceEqDiff,Nat.reduceLeDiff,Nat.reduceAdd,Nat.reduceSub,Nat.reduceMul,Int.reduceBEq,Int.reduceBNe,Int.reduceLT,Int.reduceLE,Int.reduceEq,reduceIte,reduceCtorEq,da,int,boolA]
 ·simp only [↓vp,vz,Nat.reduceLT,Nat.reduceEqDiff,Nat.reduceLeDiff,Nat.reduceAdd,Nat.reduceSub,Nat.reduceMul,Int.reduceBEq,Int.reduceBNe,Int.reduceLT,Int.reduceLE,Int.reduceEq,reduceIte,reduceCtorEq,da,int,boolA]
  try rfl
 rcases hr with ⟨_,q⟩ | ⟨id,q1,q2⟩
 ·have:=congrArg List.length q
  rw [tabC_len] at this
  simp at this
  omega
 rw [tabC_len] at q1
 have k48:=fun L Q => @kB48 K id N _ q2 (by omega) L Q
 unfold c127R1
 simp only [↓vp,vz,Nat.reduceLT,Nat.reduceEqDiff,Nat.reduceLeDiff,Nat.reduceAdd,Nat.reduceSub,Nat.reduceMul,Int.reduceBEq,Int.reduceBNe,Int.reduceLT,Int.reduceLE,Int.reduceEq,reduceIte,reduceCtorEq,da,int,boolA,rt,dr,f5,q1,k48]
theorem s128 (a b c d : List RunM) (ha : a.length ≤ 2000000) (hb : b.length ≤ 2000000) (H : Heap) : callL ftB (.fn (.func 128) [] []) [.agg [encR a,encR b],.agg [encR c,encR d]] H = some (boolA (sameM a c && sameM b d),H):=by
 refine call_p (as':=[.agg [encR a,encR b],.agg [encR c,encR d]]) rfl rfl (by simp) ?_
 unfold c128 r128
 have k1:=fun H Q => @kB45 H Q a c ha
 have k2:=fun H Q => @kB45 H Q b d hb
 simp only [boolA] at k1 k2
 cases e1 : sameM a c with
 | true =>
  cases e2 : sameM b d with
  | true =>
   rw [e1] at k1
   rw [e2] at k2
   simp only [↓vp,vz,Nat.reduceLT,Nat.reduceEqDiff,Nat.reduceLeDiff,Nat.reduceAdd,Nat.reduceSub,Nat.reduceMul,Int.reduceBEq,Int.reduceBNe,Int.reduceLT,Int.reduceLE,Int.reduceEq,reduceIte,reduceCtorEq,da,int,boolA,rt,dr,k1,k2]
  | false =>
   rw [e1] at k1
   rw [e2] at k2
   simp only [↓vp,vz,Nat.reduceLT,Nat.reduceEqDiff,Nat.reduceLeDiff,Nat.reduceAdd,Nat.reduceSub,Nat.reduceMul,Int.reduceBEq,Int.reduceBNe,Int.reduceLT,Int.reduceLE,Int.reduceEq,reduceIte,reduceCtorEq,da,int,boolA,rt,dr,k1,k2]
 | false =>
  rw [e1] at k1
  simp only [↓vp,vz,Nat.reduceLT,Nat.reduceEqDiff,Nat.reduceLeDiff,Nat.reduceAdd,Nat.reduceSub,Nat.reduceMul,Int.reduceBEq,Int.reduceBNe,Int.reduceLT,Int.reduceLE,Int.reduceEq,reduceIte,reduceCtorEq,da,int,boolA,rt,dr,k1,Bool.false_and]
theorem s129 (f h : List RunM) (hf : f.length ≤ 2000000) (hh : h.length ≤ 2000000) (H : Heap) : callL ftB (.fn (.func 129) [] []) [.agg [encR f,encR h]] H = some (.agg [encR f,encR h],H):=by
 have e : c129 = c58:=rfl
 have e' : r129 = r58:=rfl
 rw [← s58 f h hf hh H,callL_fn,callL_fn]
 unfold callF
 have q : ftB 129 = some (.go true 37 r58 c58):=by rw [← e,← e']; rfl
 have q' : ftB 58 = some (.go true 37 r58 c58):=rfl
 rw [q,q']
section
variable (N : Nat) (hN : N ≤ 32768) (w : Int → Int) (lim : Int)
include hN
theorem l130 (t : Int) (g : Nat → Bool) (hg : ∀ k : Nat, g k = (decide (w k > -2) && (w k != t || decide (t < 0)))) {Q : AExit → Env → Heap → Prop}
   (hex : ∀ f' K S, Rep K 1 S (tabC N g) → K.get 0 = some (.box false [encN (WM N w), int lim]) → K.get 1 = some (.box false [.sc (.slice none 0 0), .sc (.slice none 0 0)]) → f' 1 = int t → f' 2 = .ptr 0 0 0 → f' 4 = .ptr 1 0 0 → f' 5 = S → Q (.exit 0) (mkE 47 f') (hx K [])) :
   ∀ (d i : Nat) (S : AV) (K : Heap) (f : Nat → AV), i + d = N → Rep K 1 S (tabC i g) → K.get 0 = some (.box false [encN (WM N w), int lim]) → K.get 1 = some (.box false [.sc (.slice none 0 0), .sc (.slice none 0 0)]) → f 1 = int t → f 2 = .ptr 0 0 0 → f 4 = .ptr 1 0 0 → f 5 = S → f 6 = int i →
    AW ftB (.loop c130L0) (mkE 47 f) (hx K []) Q := by
  intro d
  induction d with
  | zero =>
    intro i S K f hd hr h0 h1 f1 f2 f4 f5 f6
    have g : ((i : Int) < N) = False := eq_false (by omega)
    have y0 := fun L => get_old h0 L
    have lw := WM_len N w
    obtain rfl : i = N := by omega
    rw [AW_loop]
    unfold c130L0
    simp only [int] at y0
    simp only [↓vp, vz, Nat.reduceLT, Nat.reduceEqDiff, Nat.reduceLeDiff, Nat.reduceAdd, Nat.reduceSub, Nat.reduceMul, Int.reduceBEq, Int.reduceBNe, Int.reduceLT, Int.reduceLE, Int.reduceEq, reduceIte, reduceCtorEq, da, int, boolA, dr, f2, f6, y0, lw, g]
    refine hex _ K S hr h0 h1 ?_ ?_ ?_ ?_ <;> simp only [↓vp, vz, Nat.reduceLT, Nat.reduceEqDiff, Nat.reduceLeDiff, Nat.reduceAdd, Nat.reduceSub, Nat.reduceMul, Int.reduceBEq, Int.reduceBNe, Int.reduceLT, Int.reduceLE, Int.reduceEq, reduceIte, reduceCtorEq, da, int, boolA, f1, f2, f4, f5]
  | succ d ih =>
    intro i S K f hd hr h0 h1 f1 f2 f4 f5 f6
    have g1 : ((i : Int) < N) = True := eq_true (by omega)
    have y0 := fun L => get_old h0 L
    have lw := WM_len N w
    have gi : i < (WM N w).length := by omega
    have w1 := wrap_succ (show i < 9223372036854775807 by omega)
    have a0 := fun H => @atN H (WM N w) i gi
    have b0 := fun H off n => @cN H (WM N w) i off n gi
    rw [WM_at gi] at b0
    have ap := fun b nid L => appA_rep (nid := nid) (bytes := 1) hr (xs := [[AV.sc (.bool b)]]) (by simp) rfl (by rw [tabC_len]; simp; omega) L
    rw [tabC_len] at ap
    have k0 : (kill K S).get 0 = _ := kill_get hr h0 (by simp)
    have k1 : (kill K S).get 1 = _ := kill_get hr h1 (by simp)
    have ht := tabC_succ i g
    rw [AW_loop]
    unfold c130L0
    simp only [int] at y0
    simp only [numC, int] at b0
    simp only [List.length_singleton] at ap
    have fin : ∀ (b : Bool) (x : Blk) (f' : Nat → AV), g i = b → f' 1 = int t → f' 2 = .ptr 0 0 0 → f' 4 = .ptr 1 0 0 → f' 5 = .sl (K.next + 1) 0 (i + 1) → f' 6 = int (i + 1 : Nat) →
        AW ftB (.loop c130L0) (mkE 47 f') (hx (kill K S) [x, .row false 1 (tabC i g ++ [[.sc (.bool b)]])]) Q := fun b x f' hb e1 e2 e4 e5 e6 => by
      rw [← hx_nil (hx _ _)]
      refine ih (i + 1) (.sl (K.next + 1) 0 (i + 1)) _ _ (by omega) (.inr ⟨K.next + 1, by rw [tabC_len], ?_⟩) (get_old k0 _) (get_old k1 _) e1 e2 e4 e5 e6
      rw [ht]
      simp only [hb]
      rw [← kill_next K S]
      exact hx_get _ _ 1
    by_cases c1 : w i > -2
    · have d1 : (w i > -2) = True := eq_true c1
      have d1' : (-2 < w i) = True := eq_true c1
      cases c2 : (w i != t) with
      | true =>
        simp only [↓vp, vz, Nat.reduceLT, Nat.reduceEqDiff, Nat.reduceLeDiff, Nat.reduceAdd, Nat.reduceSub, Nat.reduceMul, Int.reduceBEq, Int.reduceBNe, Int.reduceLT, Int.reduceLE, Int.reduceEq, reduceIte, reduceCtorEq, da, int, boolA, dr, f1, f2, f5, f6, y0, lw, g1, a0, b0, w1, d1, d1', c2, ap, kill_next]
        refine fin true _ _ (by rw [hg, decide_eq_true c1, c2]; rfl) ?_ ?_ ?_ ?_ ?_ <;> simp only [↓vp, vz, Nat.reduceLT, Nat.reduceEqDiff, Nat.reduceLeDiff, Nat.reduceAdd, Nat.reduceSub, Nat.reduceMul, Int.reduceBEq, Int.reduceBNe, Int.reduceLT, Int.reduceLE, Int.reduceEq, reduceIte, reduceCtorEq, da, int, boolA, f1, f2, f4]
      | false =>
        by_cases c3 : t < 0
        · simp only [↓vp, vz, Nat.reduceLT, Nat.reduceEqDiff, Nat.reduceLeDiff, Nat.reduceAdd, Nat.reduceSub, Nat.reduceMul, Int.reduceBEq, Int.reduceBNe, Int.reduceLT, Int.reduceLE, Int.reduceEq, reduceIte, reduceCtorEq, da, int, boolA, dr, f1, f2, f5, f6, y0, lw, g1, a0, b0, w1, d1, d1', c2, eq_true c3, ap, kill_next]
          refine fin true _ _ (by rw [hg, decide_eq_true c1, c2, decide_eq_true c3]; rfl) ?_ ?_ ?_ ?_ ?_ <;> simp only [↓vp, vz, Nat.reduceLT, Nat.reduceEqDiff, Nat.reduceLeDiff, Nat.reduceAdd, Nat.reduceSub, Nat.reduceMul, Int.reduceBEq, Int.reduceBNe, Int.reduceLT, Int.reduceLE, Int.reduceEq, reduceIte, reduceCtorEq, da, int, boolA, f1, f2, f4]
        · simp only [↓vp, vz, Nat.reduceLT, Nat.reduceEqDiff, Nat.reduceLeDiff, Nat.reduceAdd, Nat.reduceSub, Nat.reduceMul, Int.reduceBEq, Int.reduceBNe, Int.reduceLT, Int.reduceLE, Int.reduceEq, reduceIte, reduceCtorEq, da, int, boolA, dr, f1, f2, f5, f6, y0, lw, g1, a0, b0, w1, d1, d1', c2, eq_false c3, ap, kill_next]
          refine fin false _ _ (by rw [hg, decide_eq_true c1, c2, decide_eq_false c3]; rfl) ?_ ?_ ?_ ?_ ?_ <;> simp only [↓vp, vz, Nat.reduceLT, Nat.reduceEqDiff, Nat.reduceLeDiff, Nat.reduceAdd, Nat.reduceSub, Nat.reduceMul, Int.reduceBEq, Int.reduceBNe, Int.reduceLT, Int.reduceLE, Int.reduceEq, reduceIte, reduceCtorEq, da, int, boolA, f1, f2, f4]
    · have d1 : (w i > -2) = False := eq_false c1
      have d1' : (-2 < w i) = False := eq_false c1
      simp only [↓vp, vz, Nat.reduceLT, Nat.reduceEqDiff, Nat.reduceLeDiff, Nat.reduceAdd, Nat.reduceSub, Nat.reduceMul, Int.reduceBEq, Int.reduceBNe, Int.reduceLT, Int.reduceLE, Int.reduceEq, reduceIte, reduceCtorEq, da, int, boolA, dr, f1, f2, f5, f6, y0, lw, g1, a0, b0, w1, d1, d1', ap, kill_next]
      refine fin false _ _ (by rw [hg, decide_eq_false c1]; rfl) ?_ ?_ ?_ ?_ ?_ <;> simp only [↓vp, vz, Nat.reduceLT, Nat.reduceEqDiff, Nat.reduceLeDiff, Nat.reduceAdd, Nat.reduceSub, Nat.reduceMul, Int.reduceBEq, Int.reduceBNe, Int.reduceLT, Int.reduceLE, Int.reduceEq, reduceIte, reduceCtorEq, da, int, boolA, f1, f2, f4]
end
theorem s130 (N : Nat) (h0 : 0 < N) (hN : N ≤ 32768) (w : Int → Int) (lim t : Int) (H : Heap) :
  callL ftB (.fn (.func 130) [] []) [encD (WM N w) lim,int t] H = some (.agg [encR (runsM (tab N fun k => decide (w k > -2) && (w k != t || decide (t < 0)))),encR (if t ≥ 0 then runsM (tab N fun k => w k == t || (t == -3 && decide (w k ≥ 0))) else [])],H):=by
 refine call_p (as':=[encD (WM N w) lim,int t]) rfl rfl (by simp) ?_
 unfold c130 r130 encD
 simp only [↓vp,vz,Nat.reduceLT,Nat.reduceEqDiff,Nat.reduceLeDiff,Nat.reduceAdd,Nat.reduceSub,Nat.reduceMul,Int.reduceBEq,Int.reduceBNe,Int.reduceLT,Int.reduceLE,Int.reduceEq,reduceIte,reduceCtorEq,da,int,boolA,dr]
 rw [← hx_nil (hx Heap.empty _)]
 refine l130 N hN w lim t (fun k => decide (w k > -2) && (w k != t || decide (t < 0))) (fun _ => rfl) (fun f' K S hr y0 y1 f1 f2 f4 f5 => ?_) N 0 (.sc (.slice none 0 0)) _ _ (by simp) (.inl ⟨rfl,rfl⟩) rfl rfl ?_ ?_ ?_ ?_ ?_
 rotate_left
 ·simp only [↓vp,vz,Nat.reduceLT,Nat.reduceEqDiff,Nat.reduceLeDiff,Nat.reduceAdd,Nat.reduceSub,Nat.reduceMul,Int.reduceBEq,Int.reduceBNe,Int.reduceLT,Int.reduceLE,Int.reduceEq,reduceIte,reduceCtorEq,da,int,boolA]
  try rfl
 ·simp only [↓vp,vz,Nat.reduceLT,Nat.reduceEqDiff,Nat.reduceLeDiff,Nat.reduceAdd,Nat.reduceSub,Nat.reduceMul,Int.reduceBEq,Int.reduceBNe,Int.reduceLT,Int.reduceLE,Int.reduceEq,reduceIte,reduceCtorEq,da,int,boolA]
 ·simp only [↓vp,vz,Nat.reduceLT,Nat.reduceEqDiff,Nat.reduceLeDiff,Nat.reduceAdd,Nat.reduceSub,Nat.reduceMul,Int.reduceBEq,Int.reduceBNe,Int.reduceLT,Int.reduceLE,Int.reduceEq,reduceIte,reduceCtorEq,da,int,boolA]
 ·simp only [↓vp,vz,Nat.reduceLT,Nat.reduceEqDiff,Nat.reduceLeDiff,Nat.reduceAdd,Nat.reduceSub,Nat.reduceMul,Int.reduceBEq,Int.reduceBNe,Int.reduceLT,Int.reduceLE,Int.reduceEq,reduceIte,reduceCtorEq,da,int,boolA]
 ·simp only [↓vp,vz,Nat.reduceLT,Nat.reduceEqDiff,Nat.reduceLeDiff,Nat.reduceAdd,Nat.reduceSub,Nat.reduceMul,Int.reduceBEq,Int.reduceBNe,Int.reduceLT,Int.reduceLE,Int.reduceEq,reduceIte,reduceCtorEq,da,int,boolA]
  try rfl
 rcases hr with ⟨_,q⟩ | ⟨id,q1,q2⟩
 ·have:=congrArg List.length q
  rw [tabC_len] at this
  simp at this
  omega
 rw [tabC_len] at q1
 have k48:=fun L Q => @kB48 K id N _ q2 (by omega) L Q
 have k127:=fun K L Q => @KW_of ftB _ _ _ Q _ _ (s127 N h0 hN w lim t (hx K L))
 have lid:=Heap.get_lt q2
 have ne0 : id ≠ 0:=fun e => by rw [e,y0] at q2; cases q2
 have ne1 : id ≠ 1:=fun e => by rw [e,y1] at q2; cases q2
 have z0:=fun b L => get_old (show (K.set id b).get 0 = _ by rw [Heap.get_set_ne _ (Ne.symm ne0)]; exact y0) L
 have z1:=fun b L => get_old (show (K.set id b).get 1 = _ by rw [Heap.get_set_ne _ (Ne.symm ne1)]; exact y1) L
 have l1:=Heap.get_lt y1
 have gs1 : ∀ b L c,(hx (K.set id b) L).set 1 c = hx ((K.set id b).set 1 c) L:=fun b L c => hx_set_old _ L c 1 (by rw [Heap.next_set]; exact l1)
 have z2 : ∀ b c L,(hx ((K.set id b).set 1 c) L).get 1 = some c:=fun b c L => get_old (Heap.get_set_self _ (by rw [Heap.next_set]; exact l1)) L
 generalize runsM (tab N fun k => decide (w k > -2) && (w k != t || decide (t < 0))) = A at *
 generalize runsM (tab N fun k => w k == t || (t == -3 && decide (w k ≥ 0))) = B at *
 simp only [int,encD] at k127 z0
 have nl1 : ∀ b,(K.set id b).next = K.next:=fun b => Heap.next_set _ _ _
 have ne2 : (K.next = 1) = False:=eq_false (by omega)
 have ne3 : (1 = K.next) = False:=eq_false (by omega)
 unfold c130R1
 by_cases c : t ≥ 0
 ·rw [if_pos c]
  have d1 : (0 ≤ t) = True:=eq_true c
  simp only [↓vp,vz,Nat.reduceLT,Nat.reduceEqDiff,Nat.reduceLeDiff,Nat.reduceAdd,Nat.reduceSub,Nat.reduceMul,Int.reduceBEq,Int.reduceBNe,Int.reduceLT,Int.reduceLE,Int.reduceEq,reduceIte,reduceCtorEq,da,int,boolA,rt,dr,f1,f2,f4,f5,q1,k48,z0,z1,gs1,z2,nl1,ne2,ne3,eq_true c,d1,k127]
 ·rw [if_neg c]
  have d1 : (0 ≤ t) = False:=eq_false c
  simp only [↓vp,vz,Nat.reduceLT,Nat.reduceEqDiff,Nat.reduceLeDiff,Nat.reduceAdd,Nat.reduceSub,Nat.reduceMul,Int.reduceBEq,Int.reduceBNe,Int.reduceLT,Int.reduceLE,Int.reduceEq,reduceIte,reduceCtorEq,da,int,boolA,rt,dr,f1,f2,f4,f5,q1,k48,z0,z1,gs1,z2,nl1,ne2,ne3,eq_false c,d1]
  rfl
end Go.VI
namespace Go.VI
attribute [local congr] AW_congr OW_congr DW_congr NW_congr VW_congr GW_congr PW_congr KW_congr ite_congr' GV_congr CV_congr KF_congr
def badD (x : RunM) : Bool:=decide (x.1 < 2) || decide (IntKind.i64.wrap (x.1 + x.2) > 16384)
theorem mayD_eq (l : List RunM) : (l.all (fun x => !badD x) && rightM l) = mayS l:=by
 cases e : rightM l with
 | false => unfold mayS; rw [e]; simp
 | true =>
  rw [Bool.and_true]
  refine beq_iff' ?_
  rw [List.all_eq_true]
  have hm:=right_iff.1 e
  have hw : ∀ x ∈ l,IntKind.i64.wrap (x.1 + x.2) = x.1 + x.2:=fun x hx => wrap_i64 (by have:=mayM_iff.1 (hm.1 x hx); omega)
  have hb : ∀ x ∈ l,((!badD x) = true ↔ 2 ≤ x.1 ∧ x.1 + x.2 ≤ 16384):=fun x hx => by
   unfold badD
   rw [hw x hx,Bool.not_eq_true',Bool.or_eq_false_iff,decide_eq_false_iff_not,decide_eq_false_iff_not]
   omega
  constructor
  ·intro h
   refine (mayS_of (n:=16384) e (fun k hk => ?_) (by omega) (by omega)).1
   obtain ⟨x,hx,q1,q2⟩:=inR_t.1 hk
   have:=(hb x hx).1 (h x hx)
   have ex : endM x = x.1 + x.2:=rfl
   omega
  ·intro h x hx
   rw [hb x hx]
   have h2:=(mayS_t h).2
   have he : endsM l ≤ 16384:=by
    unfold mayS at h
    rw [Bool.and_eq_true,Bool.and_eq_true,decide_eq_true_eq] at h
    exact h.1.2
   have a:=h2 _ (in_first hx (hm.1 x hx))
   have b:=h2 _ (in_last hx (hm.1 x hx))
   have ex : endM x = x.1 + x.2:=rfl
   omega
theorem l167 (l : List RunM) (hl : l.length ≤ 2000000) {Q : AExit → Env → Heap → Prop}
   (hex : ∀ f' K, l.all (fun x => !badD x) = true → f' 0 = encR l → Q (.exit 0) (mkE 32 f') (hx K []))
   (hret : ∀ f' K, l.all (fun x => !badD x) = false → f' 2 = boolA false → Q .ret (mkE 32 f') (hx K [])) :
   ∀ (d i : Nat) (K : Heap) (f : Nat → AV), i + d = l.length → l.all (fun x => !badD x) = (l.drop i).all (fun x => !badD x) → f 0 = encR l → f 3 = int i →
    AW ftB (.loop c167L0) (mkE 32 f) (hx K []) Q := by
  intro d
  induction d with
  | zero =>
    intro i K f hd hc h0 h3
    have g1 : ((i : Int) < l.length) = False := by simp; omega
    rw [AW_loop]
    unfold c167L0
    rw [List.drop_eq_nil_of_le (by omega)] at hc
    simp only [↓vp, vz, Nat.reduceLT, Nat.reduceEqDiff, Nat.reduceLeDiff, Nat.reduceAdd, Nat.reduceSub, Nat.reduceMul, Int.reduceBEq, Int.reduceBNe, Int.reduceLT, Int.reduceLE, Int.reduceEq, reduceIte, reduceCtorEq, da, int, boolA, dr, h0, h3, g1]
    refine hex _ K (by rw [hc]; rfl) ?_
    simp only [↓vp, vz, Nat.reduceLT, Nat.reduceEqDiff, Nat.reduceLeDiff, Nat.reduceAdd, Nat.reduceSub, Nat.reduceMul, Int.reduceBEq, Int.reduceBNe, Int.reduceLT, Int.reduceLE, Int.reduceEq, reduceIte, reduceCtorEq, da, int, boolA, h0]
  | succ d ih =>
    intro i K f hd hc h0 h3
    have g1 : ((i : Int) < l.length) = True := by simp; omega
    have gi : i < l.length := by omega
    have w1 := wrap_succ (show i < 9223372036854775807 by omega)
    have c0 := fun H => @atR H l i gi
    have c1 := fun H off n => @cR H l i off n gi
    rw [List.drop_eq_getElem_cons gi, List.all_cons] at hc
    generalize l[i] = x at *
    simp only [runC, int] at c1
    rw [AW_loop]
    unfold c167L0
    by_cases q1 : x.1 < 2
    · have hb : badD x = true := by unfold badD; rw [decide_eq_true q1]; rfl
      rw [hb] at hc
      simp only [↓vp, vz, Nat.reduceLT, Nat.reduceEqDiff, Nat.reduceLeDiff, Nat.reduceAdd, Nat.reduceSub, Nat.reduceMul, Int.reduceBEq, Int.reduceBNe, Int.reduceLT, Int.reduceLE, Int.reduceEq, reduceIte, reduceCtorEq, da, int, boolA, dr, h0, h3, g1, c0, c1, w1, eq_true q1]
      refine hret _ _ (by rw [hc]; rfl) ?_
      simp only [↓vp, vz, Nat.reduceLT, Nat.reduceEqDiff, Nat.reduceLeDiff, Nat.reduceAdd, Nat.reduceSub, Nat.reduceMul, Int.reduceBEq, Int.reduceBNe, Int.reduceLT, Int.reduceLE, Int.reduceEq, reduceIte, reduceCtorEq, da, int, boolA]
    · by_cases q2 : IntKind.i64.wrap (x.1 + x.2) > 16384
      · have hb : badD x = true := by unfold badD; rw [decide_eq_true q2]; simp
        rw [hb] at hc
        have d1 : (16384 < IntKind.i64.wrap (x.1 + x.2)) = True := eq_true q2
        simp only [↓vp, vz, Nat.reduceLT, Nat.reduceEqDiff, Nat.reduceLeDiff, Nat.reduceAdd, Nat.reduceSub, Nat.reduceMul, Int.reduceBEq, Int.reduceBNe, Int.reduceLT, Int.reduceLE, Int.reduceEq, reduceIte, reduceCtorEq, da, int, boolA, dr, h0, h3, g1, c0, c1, w1, eq_false q1, eq_true q2, d1]
        refine hret _ _ (by rw [hc]; rfl) ?_
        simp only [↓vp, vz, Nat.reduceLT, Nat.reduceEqDiff, Nat.reduceLeDiff, Nat.reduceAdd, Nat.reduceSub, Nat.reduceMul, Int.reduceBEq, Int.reduceBNe, Int.reduceLT, Int.reduceLE, Int.reduceEq, reduceIte, reduceCtorEq, da, int, boolA]
      · have hb : badD x = false := by unfold badD; rw [decide_eq_false q1, decide_eq_false q2]; rfl
        rw [hb, Bool.not_false, Bool.true_and] at hc
        have d1 : (16384 < IntKind.i64.wrap (x.1 + x.2)) = False := eq_false q2
        simp only [↓vp, vz, Nat.reduceLT, Nat.reduceEqDiff, Nat.reduceLeDiff, Nat.reduceAdd, Nat.reduceSub, Nat.reduceMul, Int.reduceBEq, Int.reduceBNe, Int.reduceLT, Int.reduceLE, Int.reduceEq, reduceIte, reduceCtorEq, da, int, boolA, dr, h0, h3, g1, c0, c1, w1, eq_false q1, eq_false q2, d1]
        refine ih (i + 1) _ _ (by omega) hc ?_ ?_ <;> simp only [↓vp, vz, Nat.reduceLT, Nat.reduceEqDiff, Nat.reduceLeDiff, Nat.reduceAdd, Nat.reduceSub, Nat.reduceMul, Int.reduceBEq, Int.reduceBNe, Int.reduceLT, Int.reduceLE, Int.reduceEq, reduceIte, reduceCtorEq, da, int, boolA, h0]
theorem s167 (l : List RunM) (hl : l.length ≤ 2000000) (H : Heap) : callL ftB (.fn (.func 167) [] []) [encR l] H = some (boolA (mayS l),H):=by
 rw [← mayD_eq]
 refine call_p (as':=[encR l]) rfl rfl (by simp) ?_
 unfold c167 r167
 simp only [↓vp,vz,Nat.reduceLT,Nat.reduceEqDiff,Nat.reduceLeDiff,Nat.reduceAdd,Nat.reduceSub,Nat.reduceMul,Int.reduceBEq,Int.reduceBNe,Int.reduceLT,Int.reduceLE,Int.reduceEq,reduceIte,reduceCtorEq,da,int,boolA,dr]
 rw [← hx_nil (Heap.empty)]
 refine l167 l hl (fun f' K hm h0 => ?_) (fun f' K hm h2 => ?_) l.length 0 _ _ (by simp) rfl ?_ ?_
 ·have k41:=fun H Q => @kB41 H Q l hl
  unfold c167R1
  simp only [boolA] at k41
  simp only [↓vp,vz,Nat.reduceLT,Nat.reduceEqDiff,Nat.reduceLeDiff,Nat.reduceAdd,Nat.reduceSub,Nat.reduceMul,Int.reduceBEq,Int.reduceBNe,Int.reduceLT,Int.reduceLE,Int.reduceEq,reduceIte,reduceCtorEq,da,int,boolA,rt,dr,h0,k41,hm,Bool.true_and]
 ·rw [hm]
  simp only [↓vp,vz,Nat.reduceLT,Nat.reduceEqDiff,Nat.reduceLeDiff,Nat.reduceAdd,Nat.reduceSub,Nat.reduceMul,Int.reduceBEq,Int.reduceBNe,Int.reduceLT,Int.reduceLE,Int.reduceEq,reduceIte,reduceCtorEq,da,int,boolA,rt,h2,Bool.false_and]
 all_goals first | rfl | (simp only [↓vp,vz,Nat.reduceLT,Nat.reduceEqDiff,Nat.reduceLeDiff,Nat.reduceAdd,Nat.reduceSub,Nat.reduceMul,Int.reduceBEq,Int.reduceBNe,Int.reduceLT,Int.reduceLE,Int.reduceEq,reduceIte,reduceCtorEq,da,int,boolA]; done)
section
variable (l : List RunM) (hm : ∀ x ∈ l,mayM x = true) (hl : l.length ≤ 40000)
include hm hl
theorem l126b (j : Nat) (hj : j < l.length) (pre : List Int) (hp : pre.length ≤ 32768000000) {Q : AExit → Env → Heap → Prop}
   (hex : ∀ f' K S, Rep K 1 S ((pre ++ pgs l[j] l[j].2.toNat).map numC) → f' 3 = S → f' 0 = encR l → f' 4 = int j → Q (.exit 2) (mkE 32 f') (hx K [])) :
   ∀ (d i : Nat) (S : AV) (K : Heap) (f : Nat → AV), i + d = l[j].2.toNat → Rep K 1 S ((pre ++ pgs l[j] i).map numC) → f 3 = S → f 0 = encR l → f 4 = int j → f 5 = int i →
    AW ftB (.loop c126L0) (mkE 32 f) (hx K []) Q := by
  intro d
  have _q := hl
  have bx := mayM_iff.1 (hm _ (List.getElem_mem hj))
  have c0 := fun H => @atR H l j hj
  have c1 := fun H off n => @cR H l j off n hj
  generalize l[j] = x at *
  simp only [runC, int] at c1
  induction d with
  | zero =>
    intro i S K f hd hr h3 h0 h4 h5
    have g : ((i : Int) < x.2) = False := by simp; omega
    have e : i = x.2.toNat := by omega
    rw [AW_loop]
    unfold c126L0
    rw [e] at hr
    simp only [↓vp, vz, Nat.reduceLT, Nat.reduceEqDiff, Nat.reduceLeDiff, Nat.reduceAdd, Nat.reduceSub, Nat.reduceMul, Int.reduceBEq, Int.reduceBNe, Int.reduceLT, Int.reduceLE, Int.reduceEq, reduceIte, reduceCtorEq, da, int, boolA, dr, h0, h4, h5, c0, c1, g]
    refine hex _ K S hr ?_ ?_ ?_ <;> simp only [↓vp, vz, Nat.reduceLT, Nat.reduceEqDiff, Nat.reduceLeDiff, Nat.reduceAdd, Nat.reduceSub, Nat.reduceMul, Int.reduceBEq, Int.reduceBNe, Int.reduceLT, Int.reduceLE, Int.reduceEq, reduceIte, reduceCtorEq, da, int, boolA, h3, h0, h4]
  | succ d ih =>
    intro i S K f hd hr h3 h0 h4 h5
    have g1 : ((i : Int) < x.2) = True := by simp; omega
    have w1 := wrap_succ (show i < 9223372036854775807 by omega)
    have w2 : IntKind.i64.wrap (x.1 + (i : Int)) = x.1 + i := wrap_i64 (by omega)
    have hlen : ((pre ++ pgs x i).map numC).length = pre.length + i := by rw [List.length_map, List.length_append, pgs_len]
    have ap := fun nid L => appA_rep (nid := nid) (bytes := 8) hr (xs := [numC (x.1 + i)]) (by simp) rfl (by rw [hlen]; simp; omega) L
    rw [hlen] at ap
    simp only [numC, int, List.length_singleton] at ap
    have ht : (pre ++ pgs x (i + 1)).map numC = (pre ++ pgs x i).map numC ++ [numC (x.1 + i)] := by
      rw [pgs_succ, ← List.append_assoc, List.map_append (l₁ := pre ++ pgs x i)]
      rfl
    rw [AW_loop]
    unfold c126L0
    simp only [↓vp, vz, Nat.reduceLT, Nat.reduceEqDiff, Nat.reduceLeDiff, Nat.reduceAdd, Nat.reduceSub, Nat.reduceMul, Int.reduceBEq, Int.reduceBNe, Int.reduceLT, Int.reduceLE, Int.reduceEq, reduceIte, reduceCtorEq, da, int, boolA, dr, h0, h3, h4, h5, c0, c1, g1, w1, w2, ap, kill_next]
    rw [← hx_nil (hx _ _)]
    refine ih (i + 1) (.sl (K.next + 1) 0 (pre.length + i + 1)) _ _ (by omega) (.inr ⟨K.next + 1, ?_, ?_⟩) ?_ ?_ ?_ ?_
    · rw [List.length_map, List.length_append, pgs_len]
      rfl
    · rw [ht, ← kill_next K S]
      exact hx_get _ _ 1
    all_goals simp only [↓vp, vz, Nat.reduceLT, Nat.reduceEqDiff, Nat.reduceLeDiff, Nat.reduceAdd, Nat.reduceSub, Nat.reduceMul, Int.reduceBEq, Int.reduceBNe, Int.reduceLT, Int.reduceLE, Int.reduceEq, reduceIte, reduceCtorEq, da, int, boolA, h0, h4]
theorem l126 {Q : AExit → Env → Heap → Prop}
   (hex : ∀ f' K S, Rep K 1 S ((pgsL l).map numC) → f' 3 = S → Q (.exit 0) (mkE 32 f') (hx K [])) :
   ∀ (d i : Nat) (S : AV) (K : Heap) (f : Nat → AV), i + d = l.length → Rep K 1 S ((pgsL (l.take i)).map numC) → f 3 = S → f 0 = encR l → f 4 = int i →
    AW ftB (.loop c126L2) (mkE 32 f) (hx K []) Q := by
  intro d
  induction d with
  | zero =>
    intro i S K f hd hr h3 h0 h4
    have g : ((i : Int) < l.length) = False := by simp; omega
    rw [List.take_of_length_le (by omega)] at hr
    rw [AW_loop]
    unfold c126L2
    simp only [↓vp, vz, Nat.reduceLT, Nat.reduceEqDiff, Nat.reduceLeDiff, Nat.reduceAdd, Nat.reduceSub, Nat.reduceMul, Int.reduceBEq, Int.reduceBNe, Int.reduceLT, Int.reduceLE, Int.reduceEq, reduceIte, reduceCtorEq, da, int, boolA, dr, h0, h4, g]
    refine hex _ K S hr ?_
    simp only [↓vp, vz, Nat.reduceLT, Nat.reduceEqDiff, Nat.reduceLeDiff, Nat.reduceAdd, Nat.reduceSub, Nat.reduceMul, Int.reduceBEq, Int.reduceBNe, Int.reduceLT, Int.reduceLE, Int.reduceEq, reduceIte, reduceCtorEq, da, int, boolA, h3]
  | succ d ih =>
    intro i S K f hd hr h3 h0 h4
    have g1 : ((i : Int) < l.length) = True := by simp; omega
    have gi : i < l.length := by omega
    have w1 := wrap_succ (show i < 9223372036854775807 by omega)
    have bl : (pgsL (l.take i)).length ≤ 32768000000 := by
      have := pgsL_len (l := l.take i) fun x hx => hm x (List.mem_of_mem_take hx)
      have : (l.take i).length ≤ 40000 := by rw [List.length_take]; omega
      omega
    rw [AW_loop]
    unfold c126L2
    simp only [↓vp, vz, Nat.reduceLT, Nat.reduceEqDiff, Nat.reduceLeDiff, Nat.reduceAdd, Nat.reduceSub, Nat.reduceMul, Int.reduceBEq, Int.reduceBNe, Int.reduceLT, Int.reduceLE, Int.reduceEq, reduceIte, reduceCtorEq, da, int, boolA, dr, h0, h4, g1]
    refine l126b l hm hl i gi (pgsL (l.take i)) bl (fun f' K' S' hr' e3 e0 e4 => ?_) l[i].2.toNat 0 S K _ (by simp) (by simpa [pgs] using hr) ?_ ?_ ?_ ?_
    · unfold c126R1
      simp only [↓vp, vz, Nat.reduceLT, Nat.reduceEqDiff, Nat.reduceLeDiff, Nat.reduceAdd, Nat.reduceSub, Nat.reduceMul, Int.reduceBEq, Int.reduceBNe, Int.reduceLT, Int.reduceLE, Int.reduceEq, reduceIte, reduceCtorEq, da, int, boolA, dr, e4, w1]
      refine ih (i + 1) S' K' _ (by omega) (by rw [pgsL_take gi]; exact hr') ?_ ?_ ?_ <;> simp only [↓vp, vz, Nat.reduceLT, Nat.reduceEqDiff, Nat.reduceLeDiff, Nat.reduceAdd, Nat.reduceSub, Nat.reduceMul, Int.reduceBEq, Int.reduceBNe, Int.reduceLT, Int.reduceLE, Int.reduceEq, reduceIte, reduceCtorEq, da, int, boolA, e3, e0]
    · simp only [↓vp, vz, Nat.reduceLT, Nat.reduceEqDiff, Nat.reduceLeDiff, Nat.reduceAdd, Nat.reduceSub, Nat.reduceMul, Int.reduceBEq, Int.reduceBNe, Int.reduceLT, Int.reduceLE, Int.reduceEq, reduceIte, reduceCtorEq, da, int, boolA, h3]
    · simp only [↓vp, vz, Nat.reduceLT, Nat.reduceEqDiff, Nat.reduceLeDiff, Nat.reduceAdd, Nat.reduceSub, Nat.reduceMul, Int.reduceBEq, Int.reduceBNe, Int.reduceLT, Int.reduceLE, Int.reduceEq, reduceIte, reduceCtorEq, da, int, boolA, h0]
    · simp only [↓vp, vz, Nat.reduceLT, Nat.reduceEqDiff, Nat.reduceLeDiff, Nat.reduceAdd, Nat.reduceSub, Nat.reduceMul, Int.reduceBEq, Int.reduceBNe, Int.reduceLT, Int.reduceLE, Int.reduceEq, reduceIte, reduceCtorEq, da, int, boolA, h4]
    · simp only [↓vp, vz, Nat.reduceLT, Nat.reduceEqDiff, Nat.reduceLeDiff, Nat.reduceAdd, Nat.reduceSub, Nat.reduceMul, Int.reduceBEq, Int.reduceBNe, Int.reduceLT, Int.reduceLE, Int.reduceEq, reduceIte, reduceCtorEq, da, int, boolA]
      try rfl
theorem s126 (H : Heap) : callL ftB (.fn (.func 126) [] []) [encR l] H = some (encN (pgsL l),H):=by
 refine call_p (as':=[encR l]) rfl rfl (by simp) ?_
 unfold c126 r126
 simp only [↓vp,vz,Nat.reduceLT,Nat.reduceEqDiff,Nat.reduceLeDiff,Nat.reduceAdd,Nat.reduceSub,Nat.reduceMul,Int.reduceBEq,Int.reduceBNe,Int.reduceLT,Int.reduceLE,Int.reduceEq,reduceIte,reduceCtorEq,da,int,boolA,dr]
 rw [← hx_nil (Heap.empty)]
 refine l126 l hm hl (fun f' K S hr h3 => ?_) l.length 0 (.sc (.slice none 0 0)) _ _ (by simp) (.inl ⟨rfl,by simp [pgsL]⟩) ?_ ?_ ?_
 ·unfold c126R3
  obtain ⟨K',hz⟩:=frz_rep (L:=[]) (by rw [hx_nil]; exact hr) 23
  simp only [↓vp,vz,Nat.reduceLT,Nat.reduceEqDiff,Nat.reduceLeDiff,Nat.reduceAdd,Nat.reduceSub,Nat.reduceMul,Int.reduceBEq,Int.reduceBNe,Int.reduceLT,Int.reduceLE,Int.reduceEq,reduceIte,reduceCtorEq,h3]
  refine ret1 rfl (by decide) ?_
  simp only [↓vp,vz,Nat.reduceLT,Nat.reduceEqDiff,Nat.reduceLeDiff,Nat.reduceAdd,Nat.reduceSub,Nat.reduceMul,Int.reduceBEq,Int.reduceBNe,Int.reduceLT,Int.reduceLE,Int.reduceEq,reduceIte,reduceCtorEq]
  exact ⟨K',hz⟩
 all_goals first | rfl | (simp only [↓vp,vz,Nat.reduceLT,Nat.reduceEqDiff,Nat.reduceLeDiff,Nat.reduceAdd,Nat.reduceSub,Nat.reduceMul,Int.reduceBEq,Int.reduceBNe,Int.reduceLT,Int.reduceLE,Int.reduceEq,reduceIte,reduceCtorEq,da,int,boolA]; done)
end
def ovD (a b : RunM) : Bool:=decide (a.1 < b.1 + b.2) && decide (b.1 < a.1 + a.2)
theorem meet_ov {f h : List RunM} (hf : rightM f = true) (hh : rightM h = true) : meetM f h = f.any fun a => h.any fun b => ovD a b:=by
 refine beq_iff' ?_
 have mf:=(right_iff.1 hf).1
 have mh:=(right_iff.1 hh).1
 rw [meetM_iff,clean_of hf,clean_of hh,List.any_eq_true]
 constructor
 ·rintro ⟨k,q1,q2⟩
  obtain ⟨a,ha,a1,a2⟩:=inR_t.1 q1
  obtain ⟨b,hb,b1,b2⟩:=inR_t.1 q2
  have ea : endM a = a.1 + a.2:=rfl
  have eb : endM b = b.1 + b.2:=rfl
  refine ⟨a,ha,List.any_eq_true.2 ⟨b,hb,?_⟩⟩
  unfold ovD
  rw [decide_eq_true (by omega),decide_eq_true (by omega)]
  rfl
 ·rintro ⟨a,ha,q⟩
  obtain ⟨b,hb,q⟩:=List.any_eq_true.1 q
  unfold ovD at q
  rw [Bool.and_eq_true,decide_eq_true_eq,decide_eq_true_eq] at q
  have ea : endM a = a.1 + a.2:=rfl
  have eb : endM b = b.1 + b.2:=rfl
  have m1:=mayM_iff.1 (mf a ha)
  have m2:=mayM_iff.1 (mh b hb)
  rcases Int.le_total a.1 b.1 with e | e
  ·exact ⟨b.1,inR_t.2 ⟨a,ha,by omega,by omega⟩,inR_t.2 ⟨b,hb,by omega,by omega⟩⟩
  ·exact ⟨a.1,inR_t.2 ⟨a,ha,by omega,by omega⟩,inR_t.2 ⟨b,hb,by omega,by omega⟩⟩
section
variable (f h : List RunM) (hf : rightM f = true) (hh : rightM h = true)
include hf hh
theorem l125b (i : Nat) (hi : i < f.length) {Q : AExit → Env → Heap → Prop}
   (hex : ∀ f' K, K.get 0 = some (.box false [encR f, encR h]) → (h.any fun b => ovD f[i] b) = false → f' 1 = .ptr 0 0 0 → f' 3 = int i → Q (.exit 2) (mkE 59 f') (hx K []))
   (hret : ∀ f' K, (h.any fun b => ovD f[i] b) = true → f' 2 = boolA false → Q .ret (mkE 59 f') (hx K [])) :
   ∀ (d j : Nat) (K : Heap) (f' : Nat → AV), j + d = h.length → (h.any fun b => ovD f[i] b) = ((h.drop j).any fun b => ovD f[i] b) → K.get 0 = some (.box false [encR f, encR h]) → f' 1 = .ptr 0 0 0 → f' 3 = int i → f' 4 = int j →
    AW ftB (.loop c125L0) (mkE 59 f') (hx K []) Q := by
  intro d
  have mf := mayM_iff.1 ((right_iff.1 hf).1 _ (List.getElem_mem hi))
  have c0 := fun H => @atR H f i hi
  have c1 := fun H off n => @cR H f i off n hi
  generalize f[i] = a at *
  simp only [runC, int] at c1
  have w2 : IntKind.i64.wrap (a.1 + a.2) = a.1 + a.2 := wrap_i64 (by omega)
  induction d with
  | zero =>
    intro j K f' hd hc h0 e1 e3 e4
    have g : ((j : Int) < h.length) = False := by simp; omega
    have y0 := fun L => get_old h0 L
    rw [AW_loop]
    unfold c125L0
    rw [List.drop_eq_nil_of_le (by omega)] at hc
    simp only [↓vp, vz, Nat.reduceLT, Nat.reduceEqDiff, Nat.reduceLeDiff, Nat.reduceAdd, Nat.reduceSub, Nat.reduceMul, Int.reduceBEq, Int.reduceBNe, Int.reduceLT, Int.reduceLE, Int.reduceEq, reduceIte, reduceCtorEq, da, int, boolA, dr, e1, e3, e4, y0, g]
    refine hex _ K h0 (by rw [hc]; rfl) ?_ ?_ <;> simp only [↓vp, vz, Nat.reduceLT, Nat.reduceEqDiff, Nat.reduceLeDiff, Nat.reduceAdd, Nat.reduceSub, Nat.reduceMul, Int.reduceBEq, Int.reduceBNe, Int.reduceLT, Int.reduceLE, Int.reduceEq, reduceIte, reduceCtorEq, da, int, boolA, e1, e3]
  | succ d ih =>
    intro j K f' hd hc h0 e1 e3 e4
    have g1 : ((j : Int) < h.length) = True := by simp; omega
    have gj : j < h.length := by omega
    have w1 := wrap_succ (show j < 9223372036854775807 by have := right_len hh; omega)
    have y0 := fun L => get_old h0 L
    have d0 := fun H => @atR H h j gj
    have d1 := fun H off n => @cR H h j off n gj
    have mh := mayM_iff.1 ((right_iff.1 hh).1 _ (List.getElem_mem gj))
    rw [List.drop_eq_getElem_cons gj, List.any_cons] at hc
    generalize h[j] = b at *
    simp only [runC, int] at d1
    have w3 : IntKind.i64.wrap (b.1 + b.2) = b.1 + b.2 := wrap_i64 (by omega)
    have nl := Heap.get_lt h0
    rw [AW_loop]
    unfold c125L0
    by_cases q1 : a.1 < b.1 + b.2
    · by_cases q2 : b.1 < a.1 + a.2
      · have hb : ovD a b = true := by unfold ovD; rw [decide_eq_true q1, decide_eq_true q2]; rfl
        rw [hb] at hc
        simp only [↓vp, vz, Nat.reduceLT, Nat.reduceEqDiff, Nat.reduceLeDiff, Nat.reduceAdd, Nat.reduceSub, Nat.reduceMul, Int.reduceBEq, Int.reduceBNe, Int.reduceLT, Int.reduceLE, Int.reduceEq, reduceIte, reduceCtorEq, da, int, boolA, dr, e1, e3, e4, y0, c0, c1, d0, d1, g1, w1, w2, w3, eq_true q1, eq_true q2]
        rw [← hx_nil (hx K _)]
        refine hret _ _ (by rw [hc]; rfl) ?_
        simp only [↓vp, vz, Nat.reduceLT, Nat.reduceEqDiff, Nat.reduceLeDiff, Nat.reduceAdd, Nat.reduceSub, Nat.reduceMul, Int.reduceBEq, Int.reduceBNe, Int.reduceLT, Int.reduceLE, Int.reduceEq, reduceIte, reduceCtorEq, da, int, boolA]
      · have hb : ovD a b = false := by unfold ovD; rw [decide_eq_false q2]; simp
        rw [hb, Bool.false_or] at hc
        simp only [↓vp, vz, Nat.reduceLT, Nat.reduceEqDiff, Nat.reduceLeDiff, Nat.reduceAdd, Nat.reduceSub, Nat.reduceMul, Int.reduceBEq, Int.reduceBNe, Int.reduceLT, Int.reduceLE, Int.reduceEq, reduceIte, reduceCtorEq, da, int, boolA, dr, e1, e3, e4, y0, c0, c1, d0, d1, g1, w1, w2, w3, eq_true q1, eq_false q2]
        rw [← hx_nil (hx K _)]
        refine ih (j + 1) _ _ (by omega) hc (get_old h0 _) ?_ ?_ ?_ <;> simp only [↓vp, vz, Nat.reduceLT, Nat.reduceEqDiff, Nat.reduceLeDiff, Nat.reduceAdd, Nat.reduceSub, Nat.reduceMul, Int.reduceBEq, Int.reduceBNe, Int.reduceLT, Int.reduceLE, Int.reduceEq, reduceIte, reduceCtorEq, da, int, boolA, e1, e3]
    · have hb : ovD a b = false := by unfold ovD; rw [decide_eq_false q1]; simp
      rw [hb, Bool.false_or] at hc
      simp only [↓vp, vz, Nat.reduceLT, Nat.reduceEqDiff, Nat.reduceLeDiff, Nat.reduceAdd, Nat.reduceSub, Nat.reduceMul, Int.reduceBEq, Int.reduceBNe, Int.reduceLT, Int.reduceLE, Int.reduceEq, reduceIte, reduceCtorEq, da, int, boolA, dr, e1, e3, e4, y0, c0, c1, d0, d1, g1, w1, w2, w3, eq_false q1]
      rw [← hx_nil (hx K _)]
      refine ih (j + 1) _ _ (by omega) hc (get_old h0 _) ?_ ?_ ?_ <;> simp only [↓vp, vz, Nat.reduceLT, Nat.reduceEqDiff, Nat.reduceLeDiff, Nat.reduceAdd, Nat.reduceSub, Nat.reduceMul, Int.reduceBEq, Int.reduceBNe, Int.reduceLT, Int.reduceLE, Int.reduceEq, reduceIte, reduceCtorEq, da, int, boolA, e1, e3]
theorem l125 {Q : AExit → Env → Heap → Prop}
   (hex : ∀ f' K, (f.any fun a => h.any fun b => ovD a b) = false → Q (.exit 0) (mkE 59 f') (hx K []))
   (hret : ∀ f' K, (f.any fun a => h.any fun b => ovD a b) = true → f' 2 = boolA false → Q .ret (mkE 59 f') (hx K [])) :
   ∀ (d i : Nat) (K : Heap) (f' : Nat → AV), i + d = f.length → (f.any fun a => h.any fun b => ovD a b) = ((f.drop i).any fun a => h.any fun b => ovD a b) → K.get 0 = some (.box false [encR f, encR h]) → f' 1 = .ptr 0 0 0 → f' 3 = int i →
    AW ftB (.loop c125L2) (mkE 59 f') (hx K []) Q := by
  intro d
  induction d with
  | zero =>
    intro i K f' hd hc h0 e1 e3
    have g : ((i : Int) < f.length) = False := by simp; omega
    have y0 := fun L => get_old h0 L
    rw [AW_loop]
    unfold c125L2
    rw [List.drop_eq_nil_of_le (by omega)] at hc
    simp only [↓vp, vz, Nat.reduceLT, Nat.reduceEqDiff, Nat.reduceLeDiff, Nat.reduceAdd, Nat.reduceSub, Nat.reduceMul, Int.reduceBEq, Int.reduceBNe, Int.reduceLT, Int.reduceLE, Int.reduceEq, reduceIte, reduceCtorEq, da, int, boolA, dr, e1, e3, y0, g]
    exact hex _ K (by rw [hc]; rfl)
  | succ d ih =>
    intro i K f' hd hc h0 e1 e3
    have g1 : ((i : Int) < f.length) = True := by simp; omega
    have gi : i < f.length := by omega
    have w1 := wrap_succ (show i < 9223372036854775807 by have := right_len hf; omega)
    have y0 := fun L => get_old h0 L
    rw [List.drop_eq_getElem_cons gi, List.any_cons] at hc
    rw [AW_loop]
    unfold c125L2
    simp only [↓vp, vz, Nat.reduceLT, Nat.reduceEqDiff, Nat.reduceLeDiff, Nat.reduceAdd, Nat.reduceSub, Nat.reduceMul, Int.reduceBEq, Int.reduceBNe, Int.reduceLT, Int.reduceLE, Int.reduceEq, reduceIte, reduceCtorEq, da, int, boolA, dr, e1, e3, y0, g1]
    refine l125b f h hf hh i gi (fun f2 K2 h2 hb z1 z3 => ?_) (fun f2 K2 hb z2 => ?_) h.length 0 K _ (by simp) rfl h0 ?_ ?_ ?_
    · rw [hb, Bool.false_or] at hc
      unfold c125R1
      simp only [↓vp, vz, Nat.reduceLT, Nat.reduceEqDiff, Nat.reduceLeDiff, Nat.reduceAdd, Nat.reduceSub, Nat.reduceMul, Int.reduceBEq, Int.reduceBNe, Int.reduceLT, Int.reduceLE, Int.reduceEq, reduceIte, reduceCtorEq, da, int, boolA, dr, z1, z3, w1]
      refine ih (i + 1) K2 _ (by omega) hc h2 ?_ ?_ <;> simp only [↓vp, vz, Nat.reduceLT, Nat.reduceEqDiff, Nat.reduceLeDiff, Nat.reduceAdd, Nat.reduceSub, Nat.reduceMul, Int.reduceBEq, Int.reduceBNe, Int.reduceLT, Int.reduceLE, Int.reduceEq, reduceIte, reduceCtorEq, da, int, boolA, z1]
    · simp only [↓vp, vz, Nat.reduceLT, Nat.reduceEqDiff, Nat.reduceLeDiff, Nat.reduceAdd, Nat.reduceSub, Nat.reduceMul, Int.reduceBEq, Int.reduceBNe, Int.reduceLT, Int.reduceLE, Int.reduceEq, reduceIte, reduceCtorEq, da, int, boolA, dr]
      exact hret _ _ (by rw [hc, hb]; rfl) z2
    · simp only [↓vp, vz, Nat.reduceLT, Nat.reduceEqDiff, Nat.reduceLeDiff, Nat.reduceAdd, Nat.reduceSub, Nat.reduceMul, Int.reduceBEq, Int.reduceBNe, Int.reduceLT, Int.reduceLE, Int.reduceEq, reduceIte, reduceCtorEq, da, int, boolA, e1]
    · simp only [↓vp, vz, Nat.reduceLT, Nat.reduceEqDiff, Nat.reduceLeDiff, Nat.reduceAdd, Nat.reduceSub, Nat.reduceMul, Int.reduceBEq, Int.reduceBNe, Int.reduceLT, Int.reduceLE, Int.reduceEq, reduceIte, reduceCtorEq, da, int, boolA, e3]
    · simp only [↓vp, vz, Nat.reduceLT, Nat.reduceEqDiff, Nat.reduceLeDiff, Nat.reduceAdd, Nat.reduceSub, Nat.reduceMul, Int.reduceBEq, Int.reduceBNe, Int.reduceLT, Int.reduceLE, Int.reduceEq, reduceIte, reduceCtorEq, da, int, boolA]
      try rfl
end
theorem s125 (f h : List RunM) (hf : f.length ≤ 2000000) (hh : h.length ≤ 2000000) (H : Heap) : callL ftB (.fn (.func 125) [] []) [.agg [encR f,encR h]] H = some (boolA (rightS f h),H):=by
 refine call_p (as':=[.agg [encR f,encR h]]) rfl rfl (by simp) ?_
 unfold c125 r125
 have k1:=fun K L Q => @KW_of ftB _ _ _ Q _ _ (s167 f hf (hx K L))
 have k2:=fun K L Q => @KW_of ftB _ _ _ Q _ _ (s167 h hh (hx K L))
 cases e1 : mayS f with
 | false =>
  have e : rightS f h = false:=by unfold rightS; rw [e1]; rfl
  rw [e1] at k1
  simp only [boolA] at k1
  rw [e]
  simp only [↓vp,vz,Nat.reduceLT,Nat.reduceEqDiff,Nat.reduceLeDiff,Nat.reduceAdd,Nat.reduceSub,Nat.reduceMul,Int.reduceBEq,Int.reduceBNe,Int.reduceLT,Int.reduceLE,Int.reduceEq,reduceIte,reduceCtorEq,da,int,boolA,rt,dr,k1]
 | true =>
  cases e2 : mayS h with
  | false =>
   have e : rightS f h = false:=by unfold rightS; rw [e2]; simp
   rw [e1] at k1
   rw [e2] at k2
   simp only [boolA] at k1 k2
   rw [e]
   simp only [↓vp,vz,Nat.reduceLT,Nat.reduceEqDiff,Nat.reduceLeDiff,Nat.reduceAdd,Nat.reduceSub,Nat.reduceMul,Int.reduceBEq,Int.reduceBNe,Int.reduceLT,Int.reduceLE,Int.reduceEq,reduceIte,reduceCtorEq,da,int,boolA,rt,dr,k1,k2]
  | true =>
   have rf:=(mayS_t e1).1
   have rh:=(mayS_t e2).1
   have e : rightS f h = !(f.any fun a => h.any fun b => ovD a b):=by unfold rightS; rw [e1,e2,meet_ov rf rh]; rfl
   rw [e1] at k1
   rw [e2] at k2
   simp only [boolA] at k1 k2
   simp only [↓vp,vz,Nat.reduceLT,Nat.reduceEqDiff,Nat.reduceLeDiff,Nat.reduceAdd,Nat.reduceSub,Nat.reduceMul,Int.reduceBEq,Int.reduceBNe,Int.reduceLT,Int.reduceLE,Int.reduceEq,reduceIte,reduceCtorEq,da,int,boolA,dr,k1,k2]
   rw [← hx_nil (hx Heap.empty _)]
   refine l125 f h rf rh (fun f' K hm => ?_) (fun f' K hm z2 => ?_) f.length 0 _ _ (by simp) rfl rfl ?_ ?_
   ·unfold c125R3
    rw [e,hm]
    simp only [↓vp,vz,Nat.reduceLT,Nat.reduceEqDiff,Nat.reduceLeDiff,Nat.reduceAdd,Nat.reduceSub,Nat.reduceMul,Int.reduceBEq,Int.reduceBNe,Int.reduceLT,Int.reduceLE,Int.reduceEq,reduceIte,reduceCtorEq,da,int,boolA,rt]
    try rfl
   ·rw [e,hm]
    simp only [↓vp,vz,Nat.reduceLT,Nat.reduceEqDiff,Nat.reduceLeDiff,Nat.reduceAdd,Nat.reduceSub,Nat.reduceMul,Int.reduceBEq,Int.reduceBNe,Int.reduceLT,Int.reduceLE,Int.reduceEq,reduceIte,reduceCtorEq,da,int,boolA,rt,z2]
    try rfl
   ·simp only [↓vp,vz,Nat.reduceLT,Nat.reduceEqDiff,Nat.reduceLeDiff,Nat.reduceAdd,Nat.reduceSub,Nat.reduceMul,Int.reduceBEq,Int.reduceBNe,Int.reduceLT,Int.reduceLE,Int.reduceEq,reduceIte,reduceCtorEq,da,int,boolA]
   ·simp only [↓vp,vz,Nat.reduceLT,Nat.reduceEqDiff,Nat.reduceLeDiff,Nat.reduceAdd,Nat.reduceSub,Nat.reduceMul,Int.reduceBEq,Int.reduceBNe,Int.reduceLT,Int.reduceLE,Int.reduceEq,reduceIte,reduceCtorEq,da,int,boolA]
    try rfl
def putL (l : List Int) (v : Int) (w : Int → Int) (k : Int) : Int:=if k ∈ l then v else w k
theorem putL_nil (v : Int) (w : Int → Int) : putL [] v w = w:=by
 funext k
 simp [putL]
theorem putL_step {l : List Int} {i : Nat} (hi : i < l.length) (v : Int) (w : Int → Int) (k : Int) : putL (l.take (i + 1)) v w k = putW l[i] 1 v (putL (l.take i) v w) k:=by
 have hm : k ∈ l.take (i + 1) ↔ k ∈ l.take i ∨ k = l[i]:=by rw [List.take_succ_eq_append_getElem hi,List.mem_append,List.mem_singleton]
 show (if k ∈ l.take (i + 1) then v else w k) = if l[i] ≤ k ∧ k < l[i] + 1 then v else (if k ∈ l.take i then v else w k)
 by_cases e : k = l[i]
 ·rw [if_pos (hm.2 (.inr e)),if_pos (by omega)]
 ·rw [if_neg (show ¬ (l[i] ≤ k ∧ k < l[i] + 1) by omega)]
  by_cases q : k ∈ l.take i
  ·rw [if_pos (hm.2 (.inl q)),if_pos q]
  ·rw [if_neg (fun h => (hm.1 h).elim q e),if_neg q]
section
variable (N : Nat) (hN : N ≤ 16384) (lim t : Int) (B0 B1 : Blk)
include hN
theorem l66a {Q : AExit → Env → Heap → Prop}
   (hex : ∀ f' K S, RepB 3 K 1 S ((WM N fun _ => -2).map numC) → 3 ≤ K.next → K.get 2 = some (.box false [S, int lim]) → K.get 0 = some B0 → K.get 1 = some B1 → f' 1 = int t → f' 2 = int N → f' 4 = .ptr 0 0 0 → f' 8 = .ptr 1 0 0 → f' 10 = .ptr 2 0 0 → Q (.exit 0) (mkE 84 f') (hx K [])) :
   ∀ (d i : Nat) (S : AV) (K : Heap) (f : Nat → AV), i + d = N → RepB 3 K 1 S ((WM i fun _ => -2).map numC) → 3 ≤ K.next → K.get 2 = some (.box false [S, int lim]) → K.get 0 = some B0 → K.get 1 = some B1 → f 1 = int t → f 2 = int N → f 4 = .ptr 0 0 0 → f 8 = .ptr 1 0 0 → f 10 = .ptr 2 0 0 → f 11 = int i →
    AW ftB (.loop c66L0) (mkE 84 f) (hx K []) Q := by
  intro d
  induction d with
  | zero =>
    intro i S K f hd hr hn h2 h0 h1 e1 e2 e4 e8 e10 e11
    obtain rfl : i = N := by omega
    have g : ((i : Int) < i) = False := by simp
    rw [AW_loop]
    unfold c66L0
    simp only [↓vp, vz, Nat.reduceLT, Nat.reduceEqDiff, Nat.reduceLeDiff, Nat.reduceAdd, Nat.reduceSub, Nat.reduceMul, Int.reduceBEq, Int.reduceBNe, Int.reduceLT, Int.reduceLE, Int.reduceEq, reduceIte, reduceCtorEq, da, int, boolA, dr, e2, e11, g]
    refine hex _ K S hr hn h2 h0 h1 ?_ ?_ ?_ ?_ ?_ <;> simp only [↓vp, vz, Nat.reduceLT, Nat.reduceEqDiff, Nat.reduceLeDiff, Nat.reduceAdd, Nat.reduceSub, Nat.reduceMul, Int.reduceBEq, Int.reduceBNe, Int.reduceLT, Int.reduceLE, Int.reduceEq, reduceIte, reduceCtorEq, da, int, boolA, e1, e2, e4, e8, e10]
  | succ d ih =>
    intro i S K f hd hr hn h2 h0 h1 e1 e2 e4 e8 e10 e11
    have g1 : ((i : Int) < N) = True := eq_true (by omega)
    have w1 := wrap_succ (show i < 9223372036854775807 by omega)
    have hlen : ((WM i fun _ => -2).map numC).length = i := by rw [List.length_map, WM_len]
    have ap := fun nid L => appA_rep (nid := nid) (bytes := 8) hr.rep (xs := [numC (-2)]) (by simp) rfl (by rw [hlen]; simp; omega) L
    rw [hlen] at ap
    have ht : (WM i fun _ => -2).map numC ++ [numC (-2)] = (WM (i + 1) fun _ => -2).map numC := by rw [WM_succ, List.map_append]; rfl
    rw [ht] at ap
    simp only [numC, int, List.length_singleton] at ap
    have hs := hr.kill
    have k2 : (kill K S).get 2 = some (.box false [S, int lim]) := by rw [hs.2 2 (by omega), h2]
    have l2 := Heap.get_lt k2
    have q2 := fun L => get_old k2 L
    have q2' := fun L => get_old h2 L
    have gs : ∀ L b, (hx (kill K S) L).set 2 b = hx ((kill K S).set 2 b) L := fun L b => hx_set_old _ L b 2 l2
    simp only [int] at q2 q2'
    rw [AW_loop]
    unfold c66L0
    simp only [↓vp, vz, Nat.reduceLT, Nat.reduceEqDiff, Nat.reduceLeDiff, Nat.reduceAdd, Nat.reduceSub, Nat.reduceMul, Int.reduceBEq, Int.reduceBNe, Int.reduceLT, Int.reduceLE, Int.reduceEq, reduceIte, reduceCtorEq, da, int, boolA, dr, e2, e10, e11, g1, ap, kill_next, w1, q2, q2', gs]
    rw [← hx_nil (hx _ _)]
    refine ih (i + 1) (.sl (K.next + 1) 0 (i + 1)) _ _ (by omega) (.inr ⟨K.next + 1, by omega, ?_, ?_⟩) ?_ ?_ ?_ ?_ ?_ ?_ ?_ ?_ ?_ ?_
    · rw [List.length_map, WM_len]
    · have := hx_get ((kill K S).set 2 (.box false [.sl (K.next + 1) 0 (i + 1), .sc (.int .i64 lim)])) [.row false 1 [[.sc (.int .i64 (-2))]], .row false 1 ((WM (i + 1) fun _ => -2).map numC)] 1
      rw [Heap.next_set, kill_next] at this
      exact this
    · rw [hx_next, Heap.next_set, kill_next]; omega
    · exact get_old (Heap.get_set_self _ l2) _
    · exact get_old (by rw [Heap.get_set_ne _ (by decide), hs.2 0 (by omega)]; exact h0) _
    · exact get_old (by rw [Heap.get_set_ne _ (by decide), hs.2 1 (by omega)]; exact h1) _
    all_goals simp only [↓vp, vz, Nat.reduceLT, Nat.reduceEqDiff, Nat.reduceLeDiff, Nat.reduceAdd, Nat.reduceSub, Nat.reduceMul, Int.reduceBEq, Int.reduceBNe, Int.reduceLT, Int.reduceLE, Int.reduceEq, reduceIte, reduceCtorEq, da, int, boolA, e1, e2, e4, e8, e10]
theorem l66b (l : List Int) (hl : l.length ≤ 4000000000) (hp : ∀ x ∈ l, 0 ≤ x) (v turn : Int) (w : Int → Int) (h10 : B1 = .box false [.sc (.slice none 0 0), int 0]) (hB0 : ∀ r, B0 ≠ .row false 1 r) {Q : AExit → Env → Heap → Prop}
   (hex : ∀ f' K sid, (∀ x ∈ l, x < N) → K.get sid = some (.row false 1 ((WM N (putL l v w)).map numC)) → K.get 2 = some (.box false [.sl sid 0 N, int lim]) → K.get 0 = some B0 → K.get 1 = some B1 → f' 1 = int t → f' 2 = int N → f' 4 = .ptr 0 0 0 → f' 8 = .ptr 1 0 0 → f' 10 = .ptr 2 0 0 → f' 12 = int turn → Q (.exit 4) (mkE 84 f') (hx K []))
   (hret : ∀ f' K, (∃ x ∈ l, (N : Int) ≤ x) → K.get 1 = some B1 → f' 8 = .ptr 1 0 0 → f' 9 = boolA false → Q .ret (mkE 84 f') (hx K [])) :
   ∀ (d i sid : Nat) (K : Heap) (f : Nat → AV), i + d = l.length → (∀ x ∈ l.take i, x < N) → K.get sid = some (.row false 1 ((WM N (putL (l.take i) v w)).map numC)) → K.get 2 = some (.box false [.sl sid 0 N, int lim]) → K.get 0 = some B0 → K.get 1 = some B1 → f 1 = int t → f 2 = int N → f 4 = .ptr 0 0 0 → f 8 = .ptr 1 0 0 → f 10 = .ptr 2 0 0 → f 12 = int turn → f 13 = encN l → f 14 = int v → f 15 = int i →
    AW ftB (.loop c66L1) (mkE 84 f) (hx K []) Q := by
  intro d
  have _q := hN
  induction d with
  | zero =>
    intro i sid K f hd hlt hs h2 h0 h1 e1 e2 e4 e8 e10 e12 e13 e14 e15
    have g : ((i : Int) < l.length) = False := by simp; omega
    rw [List.take_of_length_le (by omega)] at hs hlt
    rw [AW_loop]
    unfold c66L1
    simp only [↓vp, vz, Nat.reduceLT, Nat.reduceEqDiff, Nat.reduceLeDiff, Nat.reduceAdd, Nat.reduceSub, Nat.reduceMul, Int.reduceBEq, Int.reduceBNe, Int.reduceLT, Int.reduceLE, Int.reduceEq, reduceIte, reduceCtorEq, da, int, boolA, dr, e13, e15, g]
    refine hex _ K sid hlt hs h2 h0 h1 ?_ ?_ ?_ ?_ ?_ ?_ <;> simp only [↓vp, vz, Nat.reduceLT, Nat.reduceEqDiff, Nat.reduceLeDiff, Nat.reduceAdd, Nat.reduceSub, Nat.reduceMul, Int.reduceBEq, Int.reduceBNe, Int.reduceLT, Int.reduceLE, Int.reduceEq, reduceIte, reduceCtorEq, da, int, boolA, e1, e2, e4, e8, e10, e12]
  | succ d ih =>
    intro i sid K f hd hlt hs h2 h0 h1 e1 e2 e4 e8 e10 e12 e13 e14 e15
    have g1 : ((i : Int) < l.length) = True := by simp; omega
    have gi : i < l.length := by omega
    have w1 := wrap_succ (show i < 9223372036854775807 by omega)
    have c0 := fun H => @atN H l i gi
    have c1 := fun H off n => @cN H l i off n gi
    have hx0 := hp _ (List.getElem_mem gi)
    have hst := fun k => putL_step gi v w k
    have htk := List.take_succ_eq_append_getElem gi
    have hmm := List.getElem_mem gi
    generalize l[i] = x at *
    obtain ⟨m, rfl⟩ : ∃ m : Nat, x = m := ⟨x.toNat, by omega⟩
    simp only [numC, int] at c1
    have lid := Heap.get_lt hs
    have y2 := fun L => get_old h2 L
    have y1 := fun L => get_old h1 L
    have l1 := Heap.get_lt h1
    have gs1 : ∀ L b, (hx K L).set 1 b = hx (K.set 1 b) L := fun L b => hx_set_old _ L b 1 l1
    rw [h10] at y1
    simp only [int] at y1 y2
    rw [AW_loop]
    unfold c66L1
    by_cases q : (m : Int) ≥ N
    · have d1 : ((N : Int) ≤ m) = True := eq_true q
      simp only [↓vp, vz, Nat.reduceLT, Nat.reduceEqDiff, Nat.reduceLeDiff, Nat.reduceAdd, Nat.reduceSub, Nat.reduceMul, Int.reduceBEq, Int.reduceBNe, Int.reduceLT, Int.reduceLE, Int.reduceEq, reduceIte, reduceCtorEq, da, int, boolA, dr, e1, e2, e4, e8, e10, e13, e14, e15, g1, c0, c1, eq_true q, d1, y1, gs1]
      refine hret _ _ ⟨_, hmm, q⟩ ?_ ?_ ?_
      · rw [h10]
        exact Heap.get_set_self _ l1
      · simp only [↓vp, vz, Nat.reduceLT, Nat.reduceEqDiff, Nat.reduceLeDiff, Nat.reduceAdd, Nat.reduceSub, Nat.reduceMul, Int.reduceBEq, Int.reduceBNe, Int.reduceLT, Int.reduceLE, Int.reduceEq, reduceIte, reduceCtorEq, da, int, boolA, e8]
      · simp only [↓vp, vz, Nat.reduceLT, Nat.reduceEqDiff, Nat.reduceLeDiff, Nat.reduceAdd, Nat.reduceSub, Nat.reduceMul, Int.reduceBEq, Int.reduceBNe, Int.reduceLT, Int.reduceLE, Int.reduceEq, reduceIte, reduceCtorEq, da, int, boolA]
    · have d1 : ((N : Int) ≤ m) = False := eq_false q
      have lm : m < N := by omega
      have ia := fun L => @ia_row (hx K L) sid N 1 m false _ (get_old hs L) lm
      have gg := fun L => get_old hs L
      have gs : ∀ L b, (hx K L).set sid b = hx (K.set sid b) L := fun L b => hx_set_old K L b sid lid
      have gk : ((WM N (putL (l.take i) v w)).map numC)[m]? = some (numC (putL (l.take i) v w m)) := by
        rw [List.getElem?_map, List.getElem?_eq_getElem (by rw [WM_len]; exact lm), WM_at]; rfl
      have hw2 : ((WM N (putL (l.take i) v w)).map numC).set m [.sc (.int .i64 v)] = (WM N (putL (l.take (i + 1)) v w)).map numC := by
        rw [show [.sc (.int .i64 v)] = numC v from rfl, ← List.map_set, WM_set lm]
        congr 1
        exact WM_congr fun k hk => (hst k).symm
      have ne0 : sid ≠ 0 := fun e => by rw [e, h0] at hs; exact hB0 _ (by injection hs)
      have ne1 : sid ≠ 1 := fun e => by rw [e, h1, h10] at hs; cases hs
      have ne2 : sid ≠ 2 := fun e => by rw [e, h2] at hs; cases hs
      simp only [numC, int] at gk
      simp only [↓vp, vz, Nat.reduceLT, Nat.reduceEqDiff, Nat.reduceLeDiff, Nat.reduceAdd, Nat.reduceSub, Nat.reduceMul, Int.reduceBEq, Int.reduceBNe, Int.reduceLT, Int.reduceLE, Int.reduceEq, reduceIte, reduceCtorEq, da, int, boolA, dr, e1, e2, e4, e8, e10, e13, e14, e15, g1, w1, c0, c1, eq_false q, d1, y2, ia, gg, gs, gk, hw2]
      refine ih (i + 1) sid _ _ (by omega) ?_ (Heap.get_set_self _ lid) ?_ ?_ ?_ ?_ ?_ ?_ ?_ ?_ ?_ ?_ ?_ ?_
      · intro y hy
        rw [htk, List.mem_append, List.mem_singleton] at hy
        rcases hy with hy | rfl
        · exact hlt y hy
        · omega
      · rw [Heap.get_set_ne _ (Ne.symm ne2)]; exact h2
      · rw [Heap.get_set_ne _ (Ne.symm ne0)]; exact h0
      · rw [Heap.get_set_ne _ (Ne.symm ne1)]; exact h1
      all_goals simp only [↓vp, vz, Nat.reduceLT, Nat.reduceEqDiff, Nat.reduceLeDiff, Nat.reduceAdd, Nat.reduceSub, Nat.reduceMul, Int.reduceBEq, Int.reduceBNe, Int.reduceLT, Int.reduceLE, Int.reduceEq, reduceIte, reduceCtorEq, da, int, boolA, e1, e2, e4, e8, e10, e12, e13, e14]
end
theorem frz_DT {H : Heap} {sid m : Nat} {L : List Int} (hs : H.get sid = some (.row false 1 (L.map numC))) (hl : L.length = m) (lim : Int) (b : Bool) : ∃ H',frz FZ H (.tup [.agg [.sl sid 0 m,.sc (.int .i64 lim)],.sc (.bool b)]) = some (.tup [encD L lim,boolA b],H'):=by
 have h:=frz_rep (K:=H) (L:=[]) (sz:=1) (S:=.sl sid 0 m) (rows:=L.map numC) (by rw [hx_nil]; exact .inr ⟨sid,by rw [List.length_map,hl],hs⟩) 19
 rw [hx_nil] at h
 obtain ⟨H',e⟩:=h
 refine ⟨H',?_⟩
 rw [show FZ = 24 from rfl,frz_tup,frzL_cons,frz_agg,frzL_cons,e]
 rfl
theorem new_ends {l : List RunM} (h : mayS l = true) {n : Int} (h0 : 0 ≤ n) : (∀ x ∈ pgsL l,x < n) ↔ endsM l ≤ n:=by
 have hr:=(mayS_t h).1
 have hm:=(right_iff.1 hr).1
 constructor
 ·intro q
  have z:=(mayS_of (n:=min n 16384) hr (fun k hk => by
   have:=q k ((pgsL_mem hm).2 hk)
   have h2:=(mayS_t h).2 k hk
   have he : endsM l ≤ 16384:=by
    unfold mayS at h
    rw [Bool.and_eq_true,Bool.and_eq_true,decide_eq_true_eq] at h
    exact h.1.2
   omega) (by omega) (by omega)).2
  omega
 ·intro q x hx
  have:=(mayS_t h).2 x ((pgsL_mem hm).1 hx)
  omega
theorem new_w {f h : List RunM} (hf : mayS f = true) (hh : mayS h = true) (hm : meetM f h = false) (t k : Int) : putL (pgsL h) t (putL (pgsL f) (-1) fun _ => -2) k = newW f h t k:=by
 have rf:=(mayS_t hf).1
 have rh:=(mayS_t hh).1
 have e1:=pgsL_mem (right_iff.1 rf).1 (p:=k)
 have e2:=pgsL_mem (right_iff.1 rh).1 (p:=k)
 have no : inR f k = true → ¬ inR h k = true:=fun q1 q2 => by
  have : meetM f h = true:=meetM_iff.2 ⟨k,by rw [clean_of rf]; exact q1,by rw [clean_of rh]; exact q2⟩
  rw [hm] at this
  cases this
 unfold putL newW
 by_cases q1 : inR f k = true
 ·rw [if_neg (fun q => no q1 (e2.1 q)),if_pos (e1.2 q1),if_pos q1]
 ·rw [if_neg q1]
  by_cases q2 : inR h k = true
  ·rw [if_pos (e2.2 q2),if_pos q2]
  ·rw [if_neg (fun q => q2 (e2.1 q)),if_neg (fun q => q1 (e1.1 q)),if_neg q2]
theorem s66 (f h : List RunM) (hf : f.length ≤ 2000000) (hh : h.length ≤ 2000000) (t pages limit : Int) (H : Heap) : callL ftB (.fn (.func 66) [] []) [.agg [encR f,encR h],int t,int pages,int limit] H =
  some (if okNew f h t pages limit then .tup [encD (WM pages.toNat (newW f h t)) limit,boolA true] else .tup [encD [] 0,boolA false],H):=by
 refine call_p (as':=[.agg [encR f,encR h],int t,int pages,int limit]) rfl rfl (by simp) ?_
 unfold c66 r66
 have k125:=fun K L Q => @KW_of ftB _ _ _ Q _ _ (s125 f h hf hh (hx K L))
 cases e1 : rightS f h with
 | false =>
  have e : okNew f h t pages limit = false:=by unfold okNew; rw [e1]; rfl
  rw [e1] at k125
  simp only [boolA] at k125
  rw [e]
  simp only [↓vp,vz,Nat.reduceLT,Nat.reduceEqDiff,Nat.reduceLeDiff,Nat.reduceAdd,Nat.reduceSub,Nat.reduceMul,Int.reduceBEq,Int.reduceBNe,Int.reduceLT,Int.reduceLE,Int.reduceEq,reduceIte,reduceCtorEq,da,int,boolA,rt,dr,k125,resC,resT,resN]
  rfl
 | true =>
 rw [e1] at k125
 simp only [boolA] at k125
 by_cases q1 : pages < 2
 ·have e : okNew f h t pages limit = false:=by unfold okNew; rw [decide_eq_true q1]; simp
  rw [e]
  simp only [↓vp,vz,Nat.reduceLT,Nat.reduceEqDiff,Nat.reduceLeDiff,Nat.reduceAdd,Nat.reduceSub,Nat.reduceMul,Int.reduceBEq,Int.reduceBNe,Int.reduceLT,Int.reduceLE,Int.reduceEq,reduceIte,reduceCtorEq,da,int,boolA,rt,dr,k125,eq_true q1,resC,resT,resN]
  rfl
 have d1 : (pages < 2) = False:=eq_false q1
 by_cases q2 : pages > limit
 ·have e : okNew f h t pages limit = false:=by unfold okNew; rw [decide_eq_true q2]; simp
  have d2 : (limit < pages) = True:=eq_true q2
  rw [e]
  simp only [↓vp,vz,Nat.reduceLT,Nat.reduceEqDiff,Nat.reduceLeDiff,Nat.reduceAdd,Nat.reduceSub,Nat.reduceMul,Int.reduceBEq,Int.reduceBNe,Int.reduceLT,Int.reduceLE,Int.reduceEq,reduceIte,reduceCtorEq,da,int,boolA,rt,dr,k125,d1,eq_true q2,d2,resC,resT,resN]
  rfl
 have d2 : (limit < pages) = False:=eq_false q2
 have d2' : (pages > limit) = False:=eq_false q2
 by_cases q3 : limit > 16384
 ·have e : okNew f h t pages limit = false:=by unfold okNew; rw [decide_eq_true q3]; simp
  have d3 : (16384 < limit) = True:=eq_true q3
  rw [e]
  simp only [↓vp,vz,Nat.reduceLT,Nat.reduceEqDiff,Nat.reduceLeDiff,Nat.reduceAdd,Nat.reduceSub,Nat.reduceMul,Int.reduceBEq,Int.reduceBNe,Int.reduceLT,Int.reduceLE,Int.reduceEq,reduceIte,reduceCtorEq,da,int,boolA,rt,dr,k125,d1,d2,d2',eq_true q3,d3,resC,resT,resN]
  rfl
 have d3 : (16384 < limit) = False:=eq_false q3
 have d3' : (limit > 16384) = False:=eq_false q3
 by_cases q4 : t < 0
 ·have e : okNew f h t pages limit = false:=by unfold okNew; rw [decide_eq_true q4]; simp
  rw [e]
  simp only [↓vp,vz,Nat.reduceLT,Nat.reduceEqDiff,Nat.reduceLeDiff,Nat.reduceAdd,Nat.reduceSub,Nat.reduceMul,Int.reduceBEq,Int.reduceBNe,Int.reduceLT,Int.reduceLE,Int.reduceEq,reduceIte,reduceCtorEq,da,int,boolA,rt,dr,k125,d1,d2,d2',d3,d3',eq_true q4,resC,resT,resN]
  rfl
 have d4 : (t < 0) = False:=eq_false q4
 have eok : okNew f h t pages limit = (decide (endsM f ≤ pages) && decide (endsM h ≤ pages)):=by
  unfold okNew
  rw [e1,decide_eq_false q1,decide_eq_false q2,decide_eq_false q3,decide_eq_false q4]
  simp
 obtain ⟨N,rfl⟩ : ∃ N : Nat,pages = N:=⟨pages.toNat,by omega⟩
 rw [Int.toNat_natCast]
 unfold rightS at e1
 rw [Bool.and_eq_true,Bool.and_eq_true,Bool.not_eq_true'] at e1
 obtain ⟨⟨mf,mh⟩,mm⟩:=e1
 have rf:=(mayS_t mf).1
 have rh:=(mayS_t mh).1
 have pf:=(right_iff.1 rf).1
 have ph:=(right_iff.1 rh).1
 have k126f:=fun K L Q => @KW_of ftB _ _ _ Q _ _ (s126 f pf (right_len rf) (hx K L))
 have k126h:=fun K L Q => @KW_of ftB _ _ _ Q _ _ (s126 h ph (right_len rh) (hx K L))
 have lf : (pgsL f).length ≤ 4000000000:=by have:=pgsL_len pf; have:=right_len rf; omega
 have lh : (pgsL h).length ≤ 4000000000:=by have:=pgsL_len ph; have:=right_len rh; omega
 have nf : ∀ x ∈ pgsL f,0 ≤ x:=fun x hx => (in_pos pf ((pgsL_mem pf).1 hx)).1
 have nh : ∀ x ∈ pgsL h,0 ≤ x:=fun x hx => (in_pos ph ((pgsL_mem ph).1 hx)).1
 have bf:=new_ends mf (n:=N) (by omega)
 have bh:=new_ends mh (n:=N) (by omega)
 have wk:=new_w mf mh mm t
 simp only [↓vp,vz,Nat.reduceLT,Nat.reduceEqDiff,Nat.reduceLeDiff,Nat.reduceAdd,Nat.reduceSub,Nat.reduceMul,Int.reduceBEq,Int.reduceBNe,Int.reduceLT,Int.reduceLE,Int.reduceEq,reduceIte,reduceCtorEq,da,int,boolA,dr,k125,d1,d2,d2',d3,d3',d4]
 rw [← hx_nil (hx Heap.empty _)]
 refine l66a N (by omega) limit t (.box false [encR f,encR h]) (.box false [.sc (.slice none 0 0),int 0]) (fun f1 K1 S1 hr1 hn1 z2 z0 z1 a1 a2 a4 a8 a10 => ?_) N 0 (.sc (.slice none 0 0)) _ _ (by simp) (.inl ⟨rfl,by simp [WM]⟩) ?_ rfl rfl rfl ?_ ?_ ?_ ?_ ?_ ?_
 rotate_left
 ·simp [hx_next]
 iterate 6 first | rfl | (simp only [↓vp,vz,Nat.reduceLT,Nat.reduceEqDiff,Nat.reduceLeDiff,Nat.reduceAdd,Nat.reduceSub,Nat.reduceMul,Int.reduceBEq,Int.reduceBNe,Int.reduceLT,Int.reduceLE,Int.reduceEq,reduceIte,reduceCtorEq,da,int,boolA]; done) | (simp only [↓vp,vz,Nat.reduceLT,Nat.reduceEqDiff,Nat.reduceLeDiff,Nat.reduceAdd,Nat.reduceSub,Nat.reduceMul,Int.reduceBEq,Int.reduceBNe,Int.reduceLT,Int.reduceLE,Int.reduceEq,reduceIte,reduceCtorEq,da,int,boolA]; rfl)
 obtain ⟨sid1,gs1,rfl⟩ : ∃ sid,K1.get sid = some (.row false 1 ((WM N fun _ => -2).map numC)) ∧ S1 = .sl sid 0 N:=by
  rcases hr1 with ⟨_,q⟩ | ⟨id,_,e,g⟩
  ·have:=congrArg List.length q
   rw [List.length_map,WM_len] at this
   simp at this
   omega
  ·rw [List.length_map,WM_len] at e
   exact ⟨id,g,e⟩
 have y0:=fun L => get_old z0 L
 unfold c66R5
 generalize hLP : ACode.loop c66L3 = LP
 simp only [↓vp,vz,Nat.reduceLT,Nat.reduceEqDiff,Nat.reduceLeDiff,Nat.reduceAdd,Nat.reduceSub,Nat.reduceMul,Int.reduceBEq,Int.reduceBNe,Int.reduceLT,Int.reduceLE,Int.reduceEq,reduceIte,reduceCtorEq,da,int,boolA,dr]
 rw [← hLP,AW_loop,hLP]
 unfold c66L3
 simp only [↓vp,vz,Nat.reduceLT,Nat.reduceEqDiff,Nat.reduceLeDiff,Nat.reduceAdd,Nat.reduceSub,Nat.reduceMul,Int.reduceBEq,Int.reduceBNe,Int.reduceLT,Int.reduceLE,Int.reduceEq,reduceIte,reduceCtorEq,da,int,boolA,dr,a1,a2,a4,a8,a10,y0,k126f]
 have bad : ∀ f' (K : Heap),okNew f h t N limit = false → K.get 1 = some (.box false [.sc (.slice none 0 0),int 0]) → f' 8 = .ptr 1 0 0 → f' 9 = boolA false →
   RetP [.cell 8 true 2,.tmp 9] (if okNew f h t N limit = true then .tup [encD (WM N (newW f h t)) limit,.sc (.bool true)] else .tup [encD [] 0,.sc (.bool false)]) .ret (mkE 84 f') (hx K []):=fun f' K e b1 e8 e9 => by
  have b1':=fun L => get_old b1 L
  rw [e,if_neg (by simp)]
  simp only [int] at b1'
  simp only [↓vp,vz,Nat.reduceLT,Nat.reduceEqDiff,Nat.reduceLeDiff,Nat.reduceAdd,Nat.reduceSub,Nat.reduceMul,Int.reduceBEq,Int.reduceBNe,Int.reduceLT,Int.reduceLE,Int.reduceEq,reduceIte,reduceCtorEq,da,int,boolA,rt,dr,e8,e9,b1',resC,resT,resN]
  rfl
 refine l66b N (by omega) limit t _ _ (pgsL f) lf nf (-1) 0 (fun _ => -2) rfl (by simp) (fun f2 K2 sid2 hl2 hs2 x2 x0 x1 b1 b2 b4 b8 b10 b12 => ?_) (fun f2 K2 hl2 x1 b8 b9 => ?_) (pgsL f).length 0 sid1 K1 _ (by simp) (by simp) ?_ z2 z0 z1 ?_ ?_ ?_ ?_ ?_ ?_ ?_ ?_ ?_
 rotate_left
 ·simp only [↓vp,vz,Nat.reduceLT,Nat.reduceEqDiff,Nat.reduceLeDiff,Nat.reduceAdd,Nat.reduceSub,Nat.reduceMul,Int.reduceBEq,Int.reduceBNe,Int.reduceLT,Int.reduceLE,Int.reduceEq,reduceIte,reduceCtorEq,da,int,boolA]
  refine bad _ _ ?_ x1 b8 b9
  rw [eok]
  have : ¬ endsM f ≤ N:=fun q => by
   obtain ⟨x,h1,h2⟩:=hl2
   have:=bf.2 q x h1
   omega
  rw [decide_eq_false this]
  rfl
 ·rw [List.take_zero,putL_nil]
  exact gs1
 iterate 9 first | rfl | (focus (simp only [↓vp,vz,Nat.reduceLT,Nat.reduceEqDiff,Nat.reduceLeDiff,Nat.reduceAdd,Nat.reduceSub,Nat.reduceMul,Int.reduceBEq,Int.reduceBNe,Int.reduceLT,Int.reduceLE,Int.reduceEq,reduceIte,reduceCtorEq,da,int,boolA,a1,a2,a4,a8,a10]; done)) | (focus (simp only [↓vp,vz,Nat.reduceLT,Nat.reduceEqDiff,Nat.reduceLeDiff,Nat.reduceAdd,Nat.reduceSub,Nat.reduceMul,Int.reduceBEq,Int.reduceBNe,Int.reduceLT,Int.reduceLE,Int.reduceEq,reduceIte,reduceCtorEq,da,int,boolA]; rfl))
 have y0':=fun L => get_old x0 L
 unfold c66R2
 simp only [↓vp,vz,Nat.reduceLT,Nat.reduceEqDiff,Nat.reduceLeDiff,Nat.reduceAdd,Nat.reduceSub,Nat.reduceMul,Int.reduceBEq,Int.reduceBNe,Int.reduceLT,Int.reduceLE,Int.reduceEq,reduceIte,reduceCtorEq,da,int,boolA,dr,b12]
 rw [← hLP,AW_loop,hLP]
 unfold c66L3
 simp only [↓vp,vz,Nat.reduceLT,Nat.reduceEqDiff,Nat.reduceLeDiff,Nat.reduceAdd,Nat.reduceSub,Nat.reduceMul,Int.reduceBEq,Int.reduceBNe,Int.reduceLT,Int.reduceLE,Int.reduceEq,reduceIte,reduceCtorEq,da,int,boolA,dr,b1,b2,b4,b8,b10,y0',k126f,k126h]
 refine l66b N (by omega) limit t _ _ (pgsL h) lh nh t 1 (putL (pgsL f) (-1) fun _ => -2) rfl (by simp) (fun f3 K3 sid3 hl3 hs3 x2 x0 x1 b1 b2 b4 b8 b10 b12 => ?_) (fun f3 K3 hl3 x1 b8 b9 => ?_) (pgsL h).length 0 sid2 K2 _ (by simp) (by simp) ?_ x2 x0 x1 ?_ ?_ ?_ ?_ ?_ ?_ ?_ ?_ ?_
 rotate_left
 ·simp only [↓vp,vz,Nat.reduceLT,Nat.reduceEqDiff,Nat.reduceLeDiff,Nat.reduceAdd,Nat.reduceSub,Nat.reduceMul,Int.reduceBEq,Int.reduceBNe,Int.reduceLT,Int.reduceLE,Int.reduceEq,reduceIte,reduceCtorEq,da,int,boolA]
  refine bad _ _ ?_ x1 b8 b9
  rw [eok]
  have : ¬ endsM h ≤ N:=fun q => by
   obtain ⟨x,h1,h2⟩:=hl3
   have:=bh.2 q x h1
   omega
  rw [decide_eq_false this]
  simp
 ·rw [List.take_zero,putL_nil]
  exact hs2
 iterate 9 first | rfl | (focus (simp only [↓vp,vz,Nat.reduceLT,Nat.reduceEqDiff,Nat.reduceLeDiff,Nat.reduceAdd,Nat.reduceSub,Nat.reduceMul,Int.reduceBEq,Int.reduceBNe,Int.reduceLT,Int.reduceLE,Int.reduceEq,reduceIte,reduceCtorEq,da,int,boolA,b1,b2,b4,b8,b10]; done)) | (focus (simp only [↓vp,vz,Nat.reduceLT,Nat.reduceEqDiff,Nat.reduceLeDiff,Nat.reduceAdd,Nat.reduceSub,Nat.reduceMul,Int.reduceBEq,Int.reduceBNe,Int.reduceLT,Int.reduceLE,Int.reduceEq,reduceIte,reduceCtorEq,da,int,boolA]; rfl))
 have e : okNew f h t N limit = true:=by rw [eok,decide_eq_true (bf.1 hl2),decide_eq_true (bh.1 hl3)]; rfl
 rw [e,if_pos rfl]
 unfold c66R2
 simp only [↓vp,vz,Nat.reduceLT,Nat.reduceEqDiff,Nat.reduceLeDiff,Nat.reduceAdd,Nat.reduceSub,Nat.reduceMul,Int.reduceBEq,Int.reduceBNe,Int.reduceLT,Int.reduceLE,Int.reduceEq,reduceIte,reduceCtorEq,da,int,boolA,dr,b12]
 rw [← hLP,AW_loop,hLP]
 unfold c66L3 c66R4
 have y2':=fun L => get_old x2 L
 have y1':=fun L => get_old x1 L
 have l1:=Heap.get_lt x1
 have ne1 : sid3 ≠ 1:=fun e => by rw [e,x1] at hs3; cases hs3
 have gs1' : ∀ L b,(hx K3 L).set 1 b = hx (K3.set 1 b) L:=fun L b => hx_set_old _ L b 1 l1
 have z2' : ∀ b L,(hx (K3.set 1 b) L).get 1 = some b:=fun b L => get_old (Heap.get_set_self _ l1) L
 simp only [int] at y1' y2'
 simp only [↓vp,vz,Nat.reduceLT,Nat.reduceEqDiff,Nat.reduceLeDiff,Nat.reduceAdd,Nat.reduceSub,Nat.reduceMul,Int.reduceBEq,Int.reduceBNe,Int.reduceLT,Int.reduceLE,Int.reduceEq,reduceIte,reduceCtorEq,da,int,boolA,dr,b1,b2,b4,b8,b10,y1',y2',gs1']
 refine RetP_go.2 ⟨rfl,?_⟩
 simp only [↓vp,vz,Nat.reduceLT,Nat.reduceEqDiff,Nat.reduceLeDiff,Nat.reduceAdd,Nat.reduceSub,Nat.reduceMul,Int.reduceBEq,Int.reduceBNe,Int.reduceLT,Int.reduceLE,Int.reduceEq,reduceIte,reduceCtorEq,da,int,boolA,dr,resC,resT,resN,b8,z2']
 obtain ⟨H',e⟩:=frz_DT (H:=K3.set 1 (.box false [.sl sid3 0 N,.sc (.int .i64 limit)])) (by rw [Heap.get_set_ne _ ne1]; exact hs3) (WM_len _ _) limit true
 rw [WM_congr (fun k _ => wk k)] at e
 rw [hx_nil]
 show Option.map Prod.fst (frz FZ _ (.tup [.agg [.sl sid3 0 N,.sc (.int .i64 limit)],.sc (.bool true)])) = _
 rw [e]
 rfl
end Go.VI
namespace Go.VI
attribute [local congr] AW_congr OW_congr DW_congr NW_congr VW_congr GW_congr PW_congr KW_congr ite_congr' GV_congr CV_congr KF_congr
section
variable (N : Nat) (h0 : 0 < N) (w : Int → Int) (lim : Int) (hN : (N : Int) ≤ lim) (hl : lim ≤ 16384)
include h0 hN hl
theorem s71 (n : Int) (H : Heap) : callL ftB (.fn (.func 71) [] []) [encD (WM N w) lim,int n] H =
  some (if n < 1 then .tup [encD (WM N w) lim,int 0,int 1] else if n > lim ∨ N + n > lim then .tup [encD (WM N w) lim,int 0,int 12] else .tup [encD (WM (N + n.toNat) (putW N n (-2) w)) lim,int N,int 0],H):=by
 refine call_p (as':=[encD (WM N w) lim,int n]) rfl rfl (by simp) ?_
 unfold c71 r71
 have lw:=WM_len N w
 by_cases q1 : n < 1
 ·rw [if_pos q1]
  unfold encD
  simp only [↓vp,vz,Nat.reduceLT,Nat.reduceEqDiff,Nat.reduceLeDiff,Nat.reduceAdd,Nat.reduceSub,Nat.reduceMul,Int.reduceBEq,Int.reduceBNe,Int.reduceLT,Int.reduceLE,Int.reduceEq,reduceIte,reduceCtorEq,da,int,boolA,rt,dr,eq_true q1,resC,resT,resN]
 rw [if_neg q1]
 have d1 : (n < 1) = False:=eq_false q1
 by_cases q2 : n > lim
 ·rw [if_pos (.inl q2)]
  have d2 : (lim < n) = True:=eq_true q2
  unfold encD
  simp only [↓vp,vz,Nat.reduceLT,Nat.reduceEqDiff,Nat.reduceLeDiff,Nat.reduceAdd,Nat.reduceSub,Nat.reduceMul,Int.reduceBEq,Int.reduceBNe,Int.reduceLT,Int.reduceLE,Int.reduceEq,reduceIte,reduceCtorEq,da,int,boolA,rt,dr,lw,d1,eq_true q2,d2,resC,resT,resN]
 have d2 : (lim < n) = False:=eq_false q2
 have d2' : (n > lim) = False:=eq_false q2
 have w1 : IntKind.i64.wrap ((N : Int) + n) = N + n:=wrap_i64 (by omega)
 by_cases q3 : (N : Int) + n > lim
 ·rw [if_pos (.inr q3)]
  have d3 : (lim < (N : Int) + n) = True:=eq_true q3
  unfold encD
  simp only [↓vp,vz,Nat.reduceLT,Nat.reduceEqDiff,Nat.reduceLeDiff,Nat.reduceAdd,Nat.reduceSub,Nat.reduceMul,Int.reduceBEq,Int.reduceBNe,Int.reduceLT,Int.reduceLE,Int.reduceEq,reduceIte,reduceCtorEq,da,int,boolA,rt,dr,lw,d1,d2,d2',w1,eq_true q3,d3,resC,resT,resN]
 rw [if_neg (by omega)]
 have d3 : (lim < (N : Int) + n) = False:=eq_false q3
 have d3' : ((N : Int) + n > lim) = False:=eq_false q3
 obtain ⟨m,rfl⟩ : ∃ m : Nat,n = m:=⟨n.toNat,by omega⟩
 have k131:=fun K L Q => @KW_of ftB _ _ _ Q _ _ (s131 N (by omega) h0 w lim N m (by omega) (by omega) (-2) (hx K L))
 rw [show max N (N + m) = N + m by omega] at k131
 rw [Int.toNat_natCast]
 unfold encD at k131 ⊢
 simp only [int] at k131
 simp only [↓vp,vz,Nat.reduceLT,Nat.reduceEqDiff,Nat.reduceLeDiff,Nat.reduceAdd,Nat.reduceSub,Nat.reduceMul,Int.reduceBEq,Int.reduceBNe,Int.reduceLT,Int.reduceLE,Int.reduceEq,reduceIte,reduceCtorEq,da,int,boolA,rt,dr,lw,d1,d2,d2',w1,d3,d3',k131,resC,resT,resN]
def oldD (x o : Int) (t : Int) : Bool:=decide (t ≥ 0) && decide (t < IntKind.i64.wrap (x - 1)) && decide (t ≤ o)
def settleD (x o : Int) (w : Int → Int) (k : Int) : Int:=if oldD x o (w k) = true then -1 else w k
def partD (x o : Int) (w : Int → Int) (i : Nat) (k : Int) : Int:=if k < (i : Int) then settleD x o w k else w k
theorem l70 (x o : Int) {Q : AExit → Env → Heap → Prop}
   (hex : ∀ f' K, K.get 0 = some (.box false [encN (WM N (settleD x o w)), int lim]) → K.get 1 = some (.box false [.sc (.slice none 0 0), int 0]) → f' 3 = .ptr 0 0 0 → f' 6 = .ptr 1 0 0 → Q (.exit 0) (mkE 44 f') (hx K [])) :
   ∀ (d i : Nat) (K : Heap) (f : Nat → AV), i + d = N → K.get 0 = some (.box false [encN (WM N (partD x o w i)), int lim]) → K.get 1 = some (.box false [.sc (.slice none 0 0), int 0]) → f 1 = int x → f 2 = int o → f 3 = .ptr 0 0 0 → f 6 = .ptr 1 0 0 → f 7 = int i →
    AW ftB (.loop c70L0) (mkE 44 f) (hx K []) Q := by
  intro d
  have _q1 := h0
  induction d with
  | zero =>
    intro i K f hd z0 z1 f1 f2 f3 f6 f7
    obtain rfl : i = N := by omega
    have g : ((i : Int) < i) = False := by simp
    have y0 := fun L => get_old z0 L
    have lw := WM_len i (partD x o w i)
    rw [AW_loop]
    unfold c70L0
    simp only [int] at y0
    simp only [↓vp, vz, Nat.reduceLT, Nat.reduceEqDiff, Nat.reduceLeDiff, Nat.reduceAdd, Nat.reduceSub, Nat.reduceMul, Int.reduceBEq, Int.reduceBNe, Int.reduceLT, Int.reduceLE, Int.reduceEq, reduceIte, reduceCtorEq, da, int, boolA, dr, f3, f7, y0, lw, g]
    rw [show WM i (partD x o w i) = WM i (settleD x o w) from WM_congr fun k hk => by unfold partD; rw [if_pos (by omega)]] at z0
    refine hex _ K z0 z1 ?_ ?_ <;> simp only [↓vp, vz, Nat.reduceLT, Nat.reduceEqDiff, Nat.reduceLeDiff, Nat.reduceAdd, Nat.reduceSub, Nat.reduceMul, Int.reduceBEq, Int.reduceBNe, Int.reduceLT, Int.reduceLE, Int.reduceEq, reduceIte, reduceCtorEq, da, int, boolA, f3, f6]
  | succ d ih =>
    intro i K f hd z0 z1 f1 f2 f3 f6 f7
    have g1 : ((i : Int) < N) = True := eq_true (by omega)
    have w1 := wrap_succ (show i < 9223372036854775807 by omega)
    have y0 := fun L => get_old z0 L
    have l0 := Heap.get_lt z0
    have hv : partD x o w i i = w i := by simp [partD]
    have step : ∀ k : Nat, k < N → partD x o w (i + 1) k = if oldD x o (w i) = true then putW i 1 (-1) (partD x o w i) k else partD x o w i k := fun k hk => by
      unfold partD
      by_cases e : k = i
      · subst e
        rw [if_pos (by omega)]
        unfold settleD putW
        split
        · rw [if_pos (by omega)]
        · rw [if_neg (by omega)]
      · have e1 : ((k : Int) < ((i + 1 : Nat) : Int)) ↔ (k : Int) < (i : Int) := by omega
        by_cases q : (k : Int) < i
        · rw [if_pos (e1.2 q), if_pos q]
          split
          · unfold putW; rw [if_neg (by omega)]; exact (if_pos q).symm
          · rfl
        · rw [if_neg (fun h => q (e1.1 h)), if_neg q]
          split
          · unfold putW; rw [if_neg (by omega)]; exact (if_neg q).symm
          · rfl
    have lw := WM_len N (partD x o w i)
    have hN1 : WM N (partD x o w (i + 1)) = WM N (fun k => if oldD x o (w i) = true then putW i 1 (-1) (partD x o w i) k else partD x o w i k) := WM_congr step
    generalize partD x o w i = v at *
    have gi : i < (WM N v).length := by omega
    have a0 := fun H => @atN H (WM N v) i gi
    have b0 := fun H off n => @cN H (WM N v) i off n gi
    rw [WM_at gi, hv] at b0
    have fin : ∀ f', oldD x o (w i) = false → f' 1 = int x → f' 2 = int o → f' 3 = .ptr 0 0 0 → f' 6 = .ptr 1 0 0 → f' 7 = int (i + 1 : Nat) → AW ftB (.loop c70L0) (mkE 44 f') (hx K []) Q := fun f' e e1 e2 e3 e6 e7 => by
      refine ih (i + 1) K f' (by omega) ?_ z1 e1 e2 e3 e6 e7
      rw [z0, hN1]
      simp only [e]
      rfl
    simp only [int] at y0
    simp only [numC, int] at b0
    rw [AW_loop]
    unfold c70L0
    by_cases q1 : w i ≥ 0
    · have d1 : (0 ≤ w i) = True := eq_true q1
      by_cases q2 : w i < IntKind.i64.wrap (x - 1)
      · by_cases q3 : w i ≤ o
        · have e : oldD x o (w i) = true := by unfold oldD; rw [decide_eq_true q1, decide_eq_true q2, decide_eq_true q3]; rfl
          have k131 := fun K L Q => @KW_of ftB _ _ _ Q _ _ (s131 N (by omega) h0 v lim i 1 (by omega) (by omega) (-1) (hx K L))
          rw [show max N (i + 1) = N by omega] at k131
          rw [show ((1 : Nat) : Int) = 1 from rfl] at k131
          unfold encD at k131
          simp only [int] at k131
          have gs : ∀ L b, (hx K L).set 0 b = hx (K.set 0 b) L := fun L b => hx_set_old K L b 0 l0
          simp only [↓vp, vz, Nat.reduceLT, Nat.reduceEqDiff, Nat.reduceLeDiff, Nat.reduceAdd, Nat.reduceSub, Nat.reduceMul, Int.reduceBEq, Int.reduceBNe, Int.reduceLT, Int.reduceLE, Int.reduceEq, reduceIte, reduceCtorEq, da, int, boolA, dr, f1, f2, f3, f7, y0, lw, g1, a0, b0, w1, eq_true q1, d1, eq_true q2, eq_true q3, k131, gs]
          refine ih (i + 1) _ _ (by omega) ?_ (by rw [Heap.get_set_ne _ (by decide)]; exact z1) ?_ ?_ ?_ ?_ ?_
          · rw [Heap.get_set_self _ l0, hN1]
            simp only [e, if_true]
            rfl
          all_goals simp only [↓vp, vz, Nat.reduceLT, Nat.reduceEqDiff, Nat.reduceLeDiff, Nat.reduceAdd, Nat.reduceSub, Nat.reduceMul, Int.reduceBEq, Int.reduceBNe, Int.reduceLT, Int.reduceLE, Int.reduceEq, reduceIte, reduceCtorEq, da, int, boolA, f1, f2, f3, f6]
        · have e : oldD x o (w i) = false := by unfold oldD; rw [decide_eq_false q3]; simp
          simp only [↓vp, vz, Nat.reduceLT, Nat.reduceEqDiff, Nat.reduceLeDiff, Nat.reduceAdd, Nat.reduceSub, Nat.reduceMul, Int.reduceBEq, Int.reduceBNe, Int.reduceLT, Int.reduceLE, Int.reduceEq, reduceIte, reduceCtorEq, da, int, boolA, dr, f1, f2, f3, f7, y0, lw, g1, a0, b0, w1, eq_true q1, d1, eq_true q2, eq_false q3]
          refine fin _ e ?_ ?_ ?_ ?_ ?_ <;> simp only [↓vp, vz, Nat.reduceLT, Nat.reduceEqDiff, Nat.reduceLeDiff, Nat.reduceAdd, Nat.reduceSub, Nat.reduceMul, Int.reduceBEq, Int.reduceBNe, Int.reduceLT, Int.reduceLE, Int.reduceEq, reduceIte, reduceCtorEq, da, int, boolA, f1, f2, f3, f6]
      · have e : oldD x o (w i) = false := by unfold oldD; rw [decide_eq_false q2]; simp
        simp only [↓vp, vz, Nat.reduceLT, Nat.reduceEqDiff, Nat.reduceLeDiff, Nat.reduceAdd, Nat.reduceSub, Nat.reduceMul, Int.reduceBEq, Int.reduceBNe, Int.reduceLT, Int.reduceLE, Int.reduceEq, reduceIte, reduceCtorEq, da, int, boolA, dr, f1, f2, f3, f7, y0, lw, g1, a0, b0, w1, eq_true q1, d1, eq_false q2]
        refine fin _ e ?_ ?_ ?_ ?_ ?_ <;> simp only [↓vp, vz, Nat.reduceLT, Nat.reduceEqDiff, Nat.reduceLeDiff, Nat.reduceAdd, Nat.reduceSub, Nat.reduceMul, Int.reduceBEq, Int.reduceBNe, Int.reduceLT, Int.reduceLE, Int.reduceEq, reduceIte, reduceCtorEq, da, int, boolA, f1, f2, f3, f6]
    · have d1 : (0 ≤ w i) = False := eq_false q1
      have e : oldD x o (w i) = false := by unfold oldD; rw [decide_eq_false q1]; simp
      simp only [↓vp, vz, Nat.reduceLT, Nat.reduceEqDiff, Nat.reduceLeDiff, Nat.reduceAdd, Nat.reduceSub, Nat.reduceMul, Int.reduceBEq, Int.reduceBNe, Int.reduceLT, Int.reduceLE, Int.reduceEq, reduceIte, reduceCtorEq, da, int, boolA, dr, f1, f2, f3, f7, y0, lw, g1, a0, b0, w1, eq_false q1, d1]
      refine fin _ e ?_ ?_ ?_ ?_ ?_ <;> simp only [↓vp, vz, Nat.reduceLT, Nat.reduceEqDiff, Nat.reduceLeDiff, Nat.reduceAdd, Nat.reduceSub, Nat.reduceMul, Int.reduceBEq, Int.reduceBNe, Int.reduceLT, Int.reduceLE, Int.reduceEq, reduceIte, reduceCtorEq, da, int, boolA, f1, f2, f3, f6]
theorem s70 (x o : Int) (H : Heap) : callL ftB (.fn (.func 70) [] []) [encD (WM N w) lim,int x,int o] H = some (encD (WM N (settleD x o w)) lim,H):=by
 refine call_p (as':=[encD (WM N w) lim,int x,int o]) rfl rfl (by simp) ?_
 unfold c70 r70 encD
 simp only [↓vp,vz,Nat.reduceLT,Nat.reduceEqDiff,Nat.reduceLeDiff,Nat.reduceAdd,Nat.reduceSub,Nat.reduceMul,Int.reduceBEq,Int.reduceBNe,Int.reduceLT,Int.reduceLE,Int.reduceEq,reduceIte,reduceCtorEq,da,int,boolA,dr]
 rw [← hx_nil (hx Heap.empty _)]
 refine l70 N h0 w lim hN hl x o (fun f' K z0 z1 f3 f6 => ?_) N 0 _ _ (by simp) ?_ rfl ?_ ?_ ?_ ?_ ?_
 rotate_left
 ·rw [show WM N (partD x o w 0) = WM N w from WM_congr fun k hk => by unfold partD; rw [if_neg (by omega)]]
  rfl
 ·simp only [↓vp,vz,Nat.reduceLT,Nat.reduceEqDiff,Nat.reduceLeDiff,Nat.reduceAdd,Nat.reduceSub,Nat.reduceMul,Int.reduceBEq,Int.reduceBNe,Int.reduceLT,Int.reduceLE,Int.reduceEq,reduceIte,reduceCtorEq,da,int,boolA]
 ·simp only [↓vp,vz,Nat.reduceLT,Nat.reduceEqDiff,Nat.reduceLeDiff,Nat.reduceAdd,Nat.reduceSub,Nat.reduceMul,Int.reduceBEq,Int.reduceBNe,Int.reduceLT,Int.reduceLE,Int.reduceEq,reduceIte,reduceCtorEq,da,int,boolA]
 ·simp only [↓vp,vz,Nat.reduceLT,Nat.reduceEqDiff,Nat.reduceLeDiff,Nat.reduceAdd,Nat.reduceSub,Nat.reduceMul,Int.reduceBEq,Int.reduceBNe,Int.reduceLT,Int.reduceLE,Int.reduceEq,reduceIte,reduceCtorEq,da,int,boolA]
 ·simp only [↓vp,vz,Nat.reduceLT,Nat.reduceEqDiff,Nat.reduceLeDiff,Nat.reduceAdd,Nat.reduceSub,Nat.reduceMul,Int.reduceBEq,Int.reduceBNe,Int.reduceLT,Int.reduceLE,Int.reduceEq,reduceIte,reduceCtorEq,da,int,boolA]
 ·simp only [↓vp,vz,Nat.reduceLT,Nat.reduceEqDiff,Nat.reduceLeDiff,Nat.reduceAdd,Nat.reduceSub,Nat.reduceMul,Int.reduceBEq,Int.reduceBNe,Int.reduceLT,Int.reduceLE,Int.reduceEq,reduceIte,reduceCtorEq,da,int,boolA]
  try rfl
 have y0:=fun L => get_old z0 L
 have y1:=fun L => get_old z1 L
 have l1:=Heap.get_lt z1
 have gs : ∀ L b,(hx K L).set 1 b = hx (K.set 1 b) L:=fun L b => hx_set_old K L b 1 l1
 have y2 : ∀ b L,(hx (K.set 1 b) L).get 1 = some b:=fun b L => get_old (Heap.get_set_self _ l1) L
 simp only [int] at y0 y1
 unfold c70R1
 simp only [↓vp,vz,Nat.reduceLT,Nat.reduceEqDiff,Nat.reduceLeDiff,Nat.reduceAdd,Nat.reduceSub,Nat.reduceMul,Int.reduceBEq,Int.reduceBNe,Int.reduceLT,Int.reduceLE,Int.reduceEq,reduceIte,reduceCtorEq,da,int,boolA,rt,dr,f3,f6,y0,y1,gs,y2]
theorem l69 (x : RunM) (hm : mayM x = true) (he : x.1 + x.2 ≤ N) (v : Int) {Q : AExit → Env → Heap → Prop}
   (hex : ∀ f' K, (∀ k, x.1 ≤ k → k < x.1 + x.2 → w k = -2) → K.get 0 = some (.box false [encN (WM N w), int lim]) → K.get 1 = some (.box false [int x.1, int x.2]) → K.get 2 = some (.box false [.sc (.slice none 0 0), int 0]) → f' 1 = int v → f' 3 = .ptr 0 0 0 → f' 5 = .ptr 1 0 0 → f' 6 = .ptr 2 0 0 → Q (.exit 0) (mkE 58 f') (hx K []))
   (hret : ∀ f' K, (∃ k, x.1 ≤ k ∧ k < x.1 + x.2 ∧ w k ≠ -2) → K.get 2 = some (.box false [encN (WM N w), int lim]) → f' 6 = .ptr 2 0 0 → f' 7 = int 110 → Q .ret (mkE 58 f') (hx K [])) :
   ∀ (d i : Nat) (K : Heap) (f : Nat → AV), (i : Int) + d = x.2 → (∀ k, x.1 ≤ k → k < x.1 + i → w k = -2) → K.get 0 = some (.box false [encN (WM N w), int lim]) → K.get 1 = some (.box false [int x.1, int x.2]) → K.get 2 = some (.box false [.sc (.slice none 0 0), int 0]) → f 1 = int v → f 3 = .ptr 0 0 0 → f 5 = .ptr 1 0 0 → f 6 = .ptr 2 0 0 → f 8 = int (x.1 + i) →
    AW ftB (.loop c69L0) (mkE 58 f) (hx K []) Q := by
  intro d
  have mx := mayM_iff.1 hm
  have _q1 := h0
  have we : IntKind.i64.wrap (x.1 + x.2) = x.1 + x.2 := wrap_i64 (by omega)
  induction d with
  | zero =>
    intro i K f hd hw z0 z1 z2 f1 f3 f5 f6 f8
    have e : x.1 + (i : Int) = x.1 + x.2 := by omega
    have g : (x.1 + (i : Int) < x.1 + x.2) = False := eq_false (by omega)
    have y1 := fun L => get_old z1 L
    simp only [int] at y1
    rw [AW_loop]
    unfold c69L0
    simp only [↓vp, vz, Nat.reduceLT, Nat.reduceEqDiff, Nat.reduceLeDiff, Nat.reduceAdd, Nat.reduceSub, Nat.reduceMul, Int.reduceBEq, Int.reduceBNe, Int.reduceLT, Int.reduceLE, Int.reduceEq, reduceIte, reduceCtorEq, da, int, boolA, dr, f5, f8, y1, we, g]
    refine hex _ K (fun k q1 q2 => hw k q1 (by omega)) z0 z1 z2 ?_ ?_ ?_ ?_ <;> simp only [↓vp, vz, Nat.reduceLT, Nat.reduceEqDiff, Nat.reduceLeDiff, Nat.reduceAdd, Nat.reduceSub, Nat.reduceMul, Int.reduceBEq, Int.reduceBNe, Int.reduceLT, Int.reduceLE, Int.reduceEq, reduceIte, reduceCtorEq, da, int, boolA, f1, f3, f5, f6]
  | succ d ih =>
    intro i K f hd hw z0 z1 z2 f1 f3 f5 f6 f8
    have g : (x.1 + (i : Int) < x.1 + x.2) = True := eq_true (by omega)
    have w1 : IntKind.i64.wrap (x.1 + (i : Int) + 1) = x.1 + ((i + 1 : Nat) : Int) := by rw [wrap_i64 (by omega)]; omega
    have y0 := fun L => get_old z0 L
    have y1 := fun L => get_old z1 L
    have y2 := fun L => get_old z2 L
    have l2 := Heap.get_lt z2
    have lw := WM_len N w
    obtain ⟨m, hmk⟩ : ∃ m : Nat, x.1 + (i : Int) = m := ⟨(x.1 + (i : Int)).toNat, by omega⟩
    have gi : m < (WM N w).length := by omega
    have a0 := fun H => @atN H (WM N w) m gi
    have b0 := fun H off n => @cN H (WM N w) m off n gi
    rw [WM_at gi] at b0
    simp only [← hmk] at a0 b0
    have gs : ∀ L b, (hx K L).set 2 b = hx (K.set 2 b) L := fun L b => hx_set_old K L b 2 l2
    simp only [int] at y0 y1 y2
    simp only [numC, int] at b0
    rw [AW_loop]
    unfold c69L0
    cases q : (w (x.1 + i) != -2) with
    | true =>
      simp only [↓vp, vz, Nat.reduceLT, Nat.reduceEqDiff, Nat.reduceLeDiff, Nat.reduceAdd, Nat.reduceSub, Nat.reduceMul, Int.reduceBEq, Int.reduceBNe, Int.reduceLT, Int.reduceLE, Int.reduceEq, reduceIte, reduceCtorEq, da, int, boolA, dr, f1, f3, f5, f6, f8, y0, y1, y2, we, g, a0, b0, q, gs]
      refine hret _ _ ⟨x.1 + i, by omega, by omega, by simpa using q⟩ (Heap.get_set_self _ l2) ?_ ?_ <;> simp only [↓vp, vz, Nat.reduceLT, Nat.reduceEqDiff, Nat.reduceLeDiff, Nat.reduceAdd, Nat.reduceSub, Nat.reduceMul, Int.reduceBEq, Int.reduceBNe, Int.reduceLT, Int.reduceLE, Int.reduceEq, reduceIte, reduceCtorEq, da, int, boolA, f6]
    | false =>
      have hwi : w (x.1 + i) = -2 := by simpa using q
      simp only [↓vp, vz, Nat.reduceLT, Nat.reduceEqDiff, Nat.reduceLeDiff, Nat.reduceAdd, Nat.reduceSub, Nat.reduceMul, Int.reduceBEq, Int.reduceBNe, Int.reduceLT, Int.reduceLE, Int.reduceEq, reduceIte, reduceCtorEq, da, int, boolA, dr, f1, f3, f5, f6, f8, y0, y1, y2, we, g, a0, b0, q, w1]
      refine ih (i + 1) K _ (by omega) (fun k q1 q2 => ?_) z0 z1 z2 ?_ ?_ ?_ ?_ ?_
      · by_cases e : k = x.1 + i
        · rw [e]; exact hwi
        · exact hw k q1 (by omega)
      all_goals simp only [↓vp, vz, Nat.reduceLT, Nat.reduceEqDiff, Nat.reduceLeDiff, Nat.reduceAdd, Nat.reduceSub, Nat.reduceMul, Int.reduceBEq, Int.reduceBNe, Int.reduceLT, Int.reduceLE, Int.reduceEq, reduceIte, reduceCtorEq, da, int, boolA, f1, f3, f5, f6]
def giveBadD (N : Nat) (t : Int) (x : RunM) : Bool:=decide (t < 0) || !mayM x || decide (x.1 < 2) || decide (x.1 + x.2 > N)
theorem s69 (t : Int) (x : RunM) (H : Heap) :
  (giveBadD N t x = true → callL ftB (.fn (.func 69) [] []) [encD (WM N w) lim,int t,.agg (runC x)] H = some (.tup [encD (WM N w) lim,int 1],H)) ∧
  (giveBadD N t x = false → (∃ k,x.1 ≤ k ∧ k < x.1 + x.2 ∧ w k ≠ -2) → callL ftB (.fn (.func 69) [] []) [encD (WM N w) lim,int t,.agg (runC x)] H = some (.tup [encD (WM N w) lim,int 110],H)) ∧
  (giveBadD N t x = false → (∀ k,x.1 ≤ k → k < x.1 + x.2 → w k = -2) → callL ftB (.fn (.func 69) [] []) [encD (WM N w) lim,int t,.agg (runC x)] H = some (.tup [encD (WM N (putW x.1 x.2 t w)) lim,int 0],H)):=by
 have k49:=fun H Q => @kB49 H Q x
 have lw:=WM_len N w
 refine ⟨fun hb => ?_,?_⟩
 ·refine call_p (as':=[encD (WM N w) lim,int t,.agg (runC x)]) rfl rfl (by simp) ?_
  unfold c69 r69 encD
  by_cases q1 : t < 0
  ·simp only [↓vp,vz,Nat.reduceLT,Nat.reduceEqDiff,Nat.reduceLeDiff,Nat.reduceAdd,Nat.reduceSub,Nat.reduceMul,Int.reduceBEq,Int.reduceBNe,Int.reduceLT,Int.reduceLE,Int.reduceEq,reduceIte,reduceCtorEq,da,int,boolA,rt,dr,eq_true q1,resC,resT,resN]
  have d1 : (t < 0) = False:=eq_false q1
  cases q2 : mayM x with
  | false =>
   rw [q2] at k49
   simp only [runC,int,boolA] at k49
   simp only [↓vp,vz,Nat.reduceLT,Nat.reduceEqDiff,Nat.reduceLeDiff,Nat.reduceAdd,Nat.reduceSub,Nat.reduceMul,Int.reduceBEq,Int.reduceBNe,Int.reduceLT,Int.reduceLE,Int.reduceEq,reduceIte,reduceCtorEq,da,int,boolA,rt,dr,runC,d1,k49,resC,resT,resN]
  | true =>
  rw [q2] at k49
  simp only [runC,int,boolA] at k49
  by_cases q3 : x.1 < 2
  ·simp only [↓vp,vz,Nat.reduceLT,Nat.reduceEqDiff,Nat.reduceLeDiff,Nat.reduceAdd,Nat.reduceSub,Nat.reduceMul,Int.reduceBEq,Int.reduceBNe,Int.reduceLT,Int.reduceLE,Int.reduceEq,reduceIte,reduceCtorEq,da,int,boolA,rt,dr,runC,d1,k49,eq_true q3,resC,resT,resN]
  have d3 : (x.1 < 2) = False:=eq_false q3
  have mx:=mayM_iff.1 q2
  have we : IntKind.i64.wrap (x.1 + x.2) = x.1 + x.2:=wrap_i64 (by omega)
  have q4 : x.1 + x.2 > N:=by unfold giveBadD at hb; rw [decide_eq_false q1,q2,decide_eq_false q3] at hb; simpa using hb
  have d4 : ((N : Int) < x.1 + x.2) = True:=eq_true q4
  simp only [↓vp,vz,Nat.reduceLT,Nat.reduceEqDiff,Nat.reduceLeDiff,Nat.reduceAdd,Nat.reduceSub,Nat.reduceMul,Int.reduceBEq,Int.reduceBNe,Int.reduceLT,Int.reduceLE,Int.reduceEq,reduceIte,reduceCtorEq,da,int,boolA,rt,dr,runC,d1,k49,d3,we,lw,eq_true q4,d4,resC,resT,resN]
 ·suffices hh : giveBadD N t x = false → ((∃ k,x.1 ≤ k ∧ k < x.1 + x.2 ∧ w k ≠ -2) → AW ftB c69 (mkE 58 (ofL [encD (WM N w) lim,int t,.agg (runC x)])) (hx Heap.empty []) (RetP r69 (.tup [encD (WM N w) lim,int 110]))) ∧
   ((∀ k,x.1 ≤ k → k < x.1 + x.2 → w k = -2) → AW ftB c69 (mkE 58 (ofL [encD (WM N w) lim,int t,.agg (runC x)])) (hx Heap.empty []) (RetP r69 (.tup [encD (WM N (putW x.1 x.2 t w)) lim,int 0]))) by
   exact ⟨fun a b => call_p (as':=[encD (WM N w) lim,int t,.agg (runC x)]) rfl rfl (by simp) ((hh a).1 b),fun a b => call_p (as':=[encD (WM N w) lim,int t,.agg (runC x)]) rfl rfl (by simp) ((hh a).2 b)⟩
  intro hb
  unfold giveBadD at hb
  rw [Bool.or_eq_false_iff,Bool.or_eq_false_iff,Bool.or_eq_false_iff,decide_eq_false_iff_not,decide_eq_false_iff_not,decide_eq_false_iff_not] at hb
  obtain ⟨⟨⟨q1,q2⟩,q3⟩,q4⟩:=hb
  have q2 : mayM x = true:=by simpa using q2
  have d1 : (t < 0) = False:=eq_false q1
  have d3 : (x.1 < 2) = False:=eq_false q3
  have mx:=mayM_iff.1 q2
  have we : IntKind.i64.wrap (x.1 + x.2) = x.1 + x.2:=wrap_i64 (by omega)
  have d4 : ((N : Int) < x.1 + x.2) = False:=eq_false q4
  have d4' : (x.1 + x.2 > (N : Int)) = False:=eq_false q4
  rw [q2] at k49
  obtain ⟨A,hA⟩ : ∃ m : Nat,x.1 = m:=⟨x.1.toNat,by omega⟩
  obtain ⟨n,hn⟩ : ∃ m : Nat,x.2 = m:=⟨x.2.toNat,by omega⟩
  have k131:=fun K L Q => @KW_of ftB _ _ _ Q _ _ (s131 N (by omega) h0 w lim A n (by omega) (by omega) t (hx K L))
  rw [show max N (A + n) = N by omega,← hA,← hn] at k131
  unfold c69 r69
  unfold encD at k131 ⊢
  simp only [runC,int,boolA] at k49 k131
  refine ⟨fun hk => ?_,fun hk => ?_⟩
  ·simp only [↓vp,vz,Nat.reduceLT,Nat.reduceEqDiff,Nat.reduceLeDiff,Nat.reduceAdd,Nat.reduceSub,Nat.reduceMul,Int.reduceBEq,Int.reduceBNe,Int.reduceLT,Int.reduceLE,Int.reduceEq,reduceIte,reduceCtorEq,da,int,boolA,dr,runC,d1,k49,d3,we,lw,d4,d4']
   rw [← hx_nil (hx Heap.empty _)]
   refine l69 N h0 w lim hN hl x q2 (by omega) t (fun f' K hw z0 z1 z2 f1 f3 f5 f6 => ?_) (fun f' K _ z2 f6 f7 => ?_) x.2.toNat 0 _ _ (by omega) (fun k a b => by omega) rfl rfl rfl ?_ ?_ ?_ ?_ ?_
   ·obtain ⟨k,a,b,c⟩:=hk
    exact absurd (hw k a b) c
   ·have y2:=fun L => get_old z2 L
    simp only [int] at y2
    simp only [↓vp,vz,Nat.reduceLT,Nat.reduceEqDiff,Nat.reduceLeDiff,Nat.reduceAdd,Nat.reduceSub,Nat.reduceMul,Int.reduceBEq,Int.reduceBNe,Int.reduceLT,Int.reduceLE,Int.reduceEq,reduceIte,reduceCtorEq,da,int,boolA,rt,dr,f6,f7,y2,resC,resT,resN]
   all_goals simp only [↓vp,vz,Nat.reduceLT,Nat.reduceEqDiff,Nat.reduceLeDiff,Nat.reduceAdd,Nat.reduceSub,Nat.reduceMul,Int.reduceBEq,Int.reduceBNe,Int.reduceLT,Int.reduceLE,Int.reduceEq,reduceIte,reduceCtorEq,da,int,boolA]
   all_goals try (rw [show x.1 + ((0 : Nat) : Int) = x.1 by omega])
  ·simp only [↓vp,vz,Nat.reduceLT,Nat.reduceEqDiff,Nat.reduceLeDiff,Nat.reduceAdd,Nat.reduceSub,Nat.reduceMul,Int.reduceBEq,Int.reduceBNe,Int.reduceLT,Int.reduceLE,Int.reduceEq,reduceIte,reduceCtorEq,da,int,boolA,dr,runC,d1,k49,d3,we,lw,d4,d4']
   rw [← hx_nil (hx Heap.empty _)]
   refine l69 N h0 w lim hN hl x q2 (by omega) t (fun f' K hw z0 z1 z2 f1 f3 f5 f6 => ?_) (fun f' K hw z2 f6 f7 => ?_) x.2.toNat 0 _ _ (by omega) (fun k a b => by omega) rfl rfl rfl ?_ ?_ ?_ ?_ ?_
   ·have y0:=fun L => get_old z0 L
    have y1:=fun L => get_old z1 L
    have y2:=fun L => get_old z2 L
    have l2:=Heap.get_lt z2
    have gs : ∀ L b,(hx K L).set 2 b = hx (K.set 2 b) L:=fun L b => hx_set_old K L b 2 l2
    have y3 : ∀ b L,(hx (K.set 2 b) L).get 2 = some b:=fun b L => get_old (Heap.get_set_self _ l2) L
    simp only [int] at y0 y1 y2
    unfold c69R1
    simp only [↓vp,vz,Nat.reduceLT,Nat.reduceEqDiff,Nat.reduceLeDiff,Nat.reduceAdd,Nat.reduceSub,Nat.reduceMul,Int.reduceBEq,Int.reduceBNe,Int.reduceLT,Int.reduceLE,Int.reduceEq,reduceIte,reduceCtorEq,da,int,boolA,rt,dr,f1,f3,f5,f6,y0,y1,y2,k131,gs,y3,resC,resT,resN]
   ·obtain ⟨k,a,b,c⟩:=hw
    exact absurd (hk k a b) c
   all_goals simp only [↓vp,vz,Nat.reduceLT,Nat.reduceEqDiff,Nat.reduceLeDiff,Nat.reduceAdd,Nat.reduceSub,Nat.reduceMul,Int.reduceBEq,Int.reduceBNe,Int.reduceLT,Int.reduceLE,Int.reduceEq,reduceIte,reduceCtorEq,da,int,boolA]
   all_goals try (rw [show x.1 + ((0 : Nat) : Int) = x.1 by omega])
def roomD (N : Nat) (w : Int → Int) (n : Int) (a : Nat) : Prop:=a < N ∧ w a = -1 ∧ (a = 0 ∨ w ((a : Int) - 1) ≠ -1) ∧ ∀ j : Nat,(j : Int) < n → a + j < N ∧ w ((a + j : Nat) : Int) = -1
theorem l68b (n : Int) (a : Nat) (B0 B1 : Blk) (hB0 : B0 = .box false [encN (WM N w), int lim]) {Q : AExit → Env → Heap → Prop}
   (hex : ∀ f' m, (∀ j : Nat, j < m → a + j < N ∧ w ((a + j : Nat) : Int) = -1) → (m : Int) ≤ n → (a + m ≥ N ∨ (m : Int) = n ∨ w ((a + m : Nat) : Int) ≠ -1) → ∀ K, K.get 0 = some B0 → K.get 1 = some B1 → f' 1 = int n → f' 2 = .ptr 0 0 0 → f' 4 = .ptr 1 0 0 → f' 7 = int a → f' 8 = int m → Q (.exit 2) (mkE 105 f') (hx K [])) (ha : a < N) :
   ∀ (d m : Nat) (K : Heap) (f : Nat → AV), a + m + d = N → (∀ j : Nat, j < m → a + j < N ∧ w ((a + j : Nat) : Int) = -1) → (m : Int) ≤ n → K.get 0 = some B0 → K.get 1 = some B1 → f 1 = int n → f 2 = .ptr 0 0 0 → f 4 = .ptr 1 0 0 → f 7 = int a → f 8 = int m →
    AW ftB (.loop c68L0) (mkE 105 f) (hx K []) Q := by
  intro d
  have lw := WM_len N w
  have _q1 := h0
  subst hB0
  induction d with
  | zero =>
    intro m K f hd hm hn z0 z1 f1 f2 f4 f7 f8
    have w1 : IntKind.i64.wrap ((a : Int) + m) = ((a + m : Nat) : Int) := by rw [wrap_i64 (by omega)]; omega
    have g : (((a + m : Nat) : Int) < N) = False := eq_false (by omega)
    have y0 := fun L => get_old z0 L
    simp only [int] at y0
    rw [AW_loop]
    unfold c68L0
    simp only [↓vp, vz, Nat.reduceLT, Nat.reduceEqDiff, Nat.reduceLeDiff, Nat.reduceAdd, Nat.reduceSub, Nat.reduceMul, Int.reduceBEq, Int.reduceBNe, Int.reduceLT, Int.reduceLE, Int.reduceEq, reduceIte, reduceCtorEq, da, int, boolA, dr, f1, f2, f7, f8, y0, lw, w1, g]
    refine hex _ m hm hn (.inl (by omega)) K z0 z1 ?_ ?_ ?_ ?_ ?_ <;> simp only [↓vp, vz, Nat.reduceLT, Nat.reduceEqDiff, Nat.reduceLeDiff, Nat.reduceAdd, Nat.reduceSub, Nat.reduceMul, Int.reduceBEq, Int.reduceBNe, Int.reduceLT, Int.reduceLE, Int.reduceEq, reduceIte, reduceCtorEq, da, int, boolA, f1, f2, f4, f7, f8]
  | succ d ih =>
    intro m K f hd hm hn z0 z1 f1 f2 f4 f7 f8
    have w1 : IntKind.i64.wrap ((a : Int) + m) = ((a + m : Nat) : Int) := by rw [wrap_i64 (by omega)]; omega
    have g : (((a + m : Nat) : Int) < N) = True := eq_true (by omega)
    have y0 := fun L => get_old z0 L
    simp only [int] at y0
    rw [AW_loop]
    unfold c68L0
    by_cases q1 : (m : Int) < n
    · have gi : a + m < (WM N w).length := by omega
      have a0 := fun H => @atN H (WM N w) (a + m) gi
      have b0 := fun H off k => @cN H (WM N w) (a + m) off k gi
      rw [WM_at gi] at b0
      simp only [numC, int] at b0
      have w2 := wrap_succ (show m < 9223372036854775807 by omega)
      cases q2 : (w ((a + m : Nat) : Int) == -1) with
      | true =>
        have q3 : w ((a + m : Nat) : Int) = -1 := by simpa using q2
        simp only [↓vp, vz, Nat.reduceLT, Nat.reduceEqDiff, Nat.reduceLeDiff, Nat.reduceAdd, Nat.reduceSub, Nat.reduceMul, Int.reduceBEq, Int.reduceBNe, Int.reduceLT, Int.reduceLE, Int.reduceEq, reduceIte, reduceCtorEq, da, int, boolA, dr, f1, f2, f7, f8, y0, lw, w1, g, eq_true q1, a0, b0, q2, w2]
        refine ih (m + 1) K _ (by omega) (fun j hj => ?_) (by omega) z0 z1 ?_ ?_ ?_ ?_ ?_
        · rcases Nat.lt_or_ge j m with e | e
          · exact hm j e
          · obtain rfl : j = m := by omega
            exact ⟨by omega, q3⟩
        all_goals simp only [↓vp, vz, Nat.reduceLT, Nat.reduceEqDiff, Nat.reduceLeDiff, Nat.reduceAdd, Nat.reduceSub, Nat.reduceMul, Int.reduceBEq, Int.reduceBNe, Int.reduceLT, Int.reduceLE, Int.reduceEq, reduceIte, reduceCtorEq, da, int, boolA, f1, f2, f4, f7]
      | false =>
        simp only [↓vp, vz, Nat.reduceLT, Nat.reduceEqDiff, Nat.reduceLeDiff, Nat.reduceAdd, Nat.reduceSub, Nat.reduceMul, Int.reduceBEq, Int.reduceBNe, Int.reduceLT, Int.reduceLE, Int.reduceEq, reduceIte, reduceCtorEq, da, int, boolA, dr, f1, f2, f7, f8, y0, lw, w1, g, eq_true q1, a0, b0, q2]
        refine hex _ m hm hn (.inr (.inr (by simpa using q2))) K z0 z1 ?_ ?_ ?_ ?_ ?_ <;> simp only [↓vp, vz, Nat.reduceLT, Nat.reduceEqDiff, Nat.reduceLeDiff, Nat.reduceAdd, Nat.reduceSub, Nat.reduceMul, Int.reduceBEq, Int.reduceBNe, Int.reduceLT, Int.reduceLE, Int.reduceEq, reduceIte, reduceCtorEq, da, int, boolA, f1, f2, f4, f7, f8]
    · simp only [↓vp, vz, Nat.reduceLT, Nat.reduceEqDiff, Nat.reduceLeDiff, Nat.reduceAdd, Nat.reduceSub, Nat.reduceMul, Int.reduceBEq, Int.reduceBNe, Int.reduceLT, Int.reduceLE, Int.reduceEq, reduceIte, reduceCtorEq, da, int, boolA, dr, f1, f2, f7, f8, y0, lw, w1, g, eq_false q1]
      refine hex _ m hm hn (.inr (.inl (by omega))) K z0 z1 ?_ ?_ ?_ ?_ ?_ <;> simp only [↓vp, vz, Nat.reduceLT, Nat.reduceEqDiff, Nat.reduceLeDiff, Nat.reduceAdd, Nat.reduceSub, Nat.reduceMul, Int.reduceBEq, Int.reduceBNe, Int.reduceLT, Int.reduceLE, Int.reduceEq, reduceIte, reduceCtorEq, da, int, boolA, f1, f2, f4, f7, f8]
theorem l68 (n : Int) (hn1 : 1 ≤ n) {Q : AExit → Env → Heap → Prop}
   (hex : ∀ f' K, (∀ a, ¬ roomD N w n a) → K.get 0 = some (.box false [encN (WM N w), int lim]) → K.get 1 = some (.box false [.sc (.slice none 0 0), int 0]) → f' 1 = int n → f' 2 = .ptr 0 0 0 → f' 4 = .ptr 1 0 0 → Q (.exit 0) (mkE 105 f') (hx K []))
   (hret : ∀ a f' K, roomD N w n a → (∀ b, b < a → ¬ roomD N w n b) → K.get 1 = some (.box false [encN (WM N (putW a n (-2) w)), int lim]) → f' 4 = .ptr 1 0 0 → f' 5 = int a → f' 6 = int 0 → Q .ret (mkE 105 f') (hx K [])) :
   ∀ (d i : Nat) (K : Heap) (f : Nat → AV), i + d = N → (∀ a, a < i → ¬ roomD N w n a) → K.get 0 = some (.box false [encN (WM N w), int lim]) → K.get 1 = some (.box false [.sc (.slice none 0 0), int 0]) → f 1 = int n → f 2 = .ptr 0 0 0 → f 4 = .ptr 1 0 0 → f 7 = int i →
    AW ftB (.loop c68L3) (mkE 105 f) (hx K []) Q := by
  intro d
  have lw := WM_len N w
  induction d with
  | zero =>
    intro i K f hd hno z0 z1 f1 f2 f4 f7
    have g : ((i : Int) < N) = False := eq_false (by omega)
    have y0 := fun L => get_old z0 L
    simp only [int] at y0
    rw [AW_loop]
    unfold c68L3
    simp only [↓vp, vz, Nat.reduceLT, Nat.reduceEqDiff, Nat.reduceLeDiff, Nat.reduceAdd, Nat.reduceSub, Nat.reduceMul, Int.reduceBEq, Int.reduceBNe, Int.reduceLT, Int.reduceLE, Int.reduceEq, reduceIte, reduceCtorEq, da, int, boolA, dr, f1, f2, f7, y0, lw, g]
    refine hex _ K (fun a ha => hno a (by have := ha.1; omega) ha) z0 z1 ?_ ?_ ?_ <;> simp only [↓vp, vz, Nat.reduceLT, Nat.reduceEqDiff, Nat.reduceLeDiff, Nat.reduceAdd, Nat.reduceSub, Nat.reduceMul, Int.reduceBEq, Int.reduceBNe, Int.reduceLT, Int.reduceLE, Int.reduceEq, reduceIte, reduceCtorEq, da, int, boolA, f1, f2, f4]
  | succ d ih =>
    intro i K f hd hno z0 z1 f1 f2 f4 f7
    obtain ⟨LP, hLP⟩ : ∃ LP, LP = ACode.loop c68L3 := ⟨_, rfl⟩
    rw [← hLP] at ih ⊢
    have g : ((i : Int) < N) = True := eq_true (by omega)
    have y0 := fun L => get_old z0 L
    simp only [int] at y0
    have gi : i < (WM N w).length := by omega
    have a0 := fun H => @atN H (WM N w) i gi
    have b0 := fun H off k => @cN H (WM N w) i off k gi
    rw [WM_at gi] at b0
    simp only [numC, int] at b0
    have w1 := wrap_succ (show i < 9223372036854775807 by omega)
    have next : ∀ f' K', ¬ roomD N w n i → K'.get 0 = some (.box false [encN (WM N w), int lim]) → K'.get 1 = some (.box false [.sc (.slice none 0 0), int 0]) → f' 1 = int n → f' 2 = .ptr 0 0 0 → f' 4 = .ptr 1 0 0 → f' 7 = int (i + 1 : Nat) → AW ftB LP (mkE 105 f') (hx K' []) Q := fun f' K' hn' x0 x1 e1 e2 e4 e7 =>
      ih (i + 1) K' f' (by omega) (fun a ha => by
        rcases Nat.lt_or_ge a i with e | e
        · exact hno a e
        · obtain rfl : a = i := by omega
          exact hn') x0 x1 e1 e2 e4 e7
    have try' : ∀ f' K', w i = -1 → (i = 0 ∨ w ((i : Int) - 1) ≠ -1) → K'.get 0 = some (.box false [encN (WM N w), int lim]) → K'.get 1 = some (.box false [.sc (.slice none 0 0), int 0]) → f' 1 = int n → f' 2 = .ptr 0 0 0 → f' 4 = .ptr 1 0 0 → f' 7 = int i → f' 8 = int 0 →
        AW ftB (.loop c68L0) (mkE 105 f') (hx K' []) (blockA 2 (thenA (fun e H => AW ftB c68R1 e H (blockA 1 (thenA (fun e H => AW ftB c68R2 e H (thenA (fun e H => AW ftB LP e H Q) Q)) (thenA (fun e H => AW ftB LP e H Q) Q)))) (blockA 1 (thenA (fun e H => AW ftB c68R2 e H (thenA (fun e H => AW ftB LP e H Q) Q)) (thenA (fun e H => AW ftB LP e H Q) Q))))) := fun f' K' hw1 hw2 x0 x1 e1 e2 e4 e7 e8 => by
      refine l68b N h0 w lim hN hl n i (.box false [encN (WM N w), int lim]) (.box false [.sc (.slice none 0 0), int 0]) rfl (fun f2 m hm hmn hst K2 x0 x1 b1 b2 b4 b7 b8 => ?_) (by omega) (N - i) 0 K' f' (by omega) (by omega) (by omega) x0 x1 e1 e2 e4 e7 (by rw [e8]; rfl)
      have l1 := Heap.get_lt x1
      have yy0 := fun L => get_old x0 L
      have yy1 := fun L => get_old x1 L
      have gs : ∀ L b, (hx K2 L).set 1 b = hx (K2.set 1 b) L := fun L b => hx_set_old K2 L b 1 l1
      simp only [int] at yy0 yy1
      unfold c68R1
      by_cases q : (m : Int) = n
      · have qb : ((m : Int) == n) = true := by simpa using q
        have hr : roomD N w n i := ⟨by omega, hw1, hw2, fun j hj => hm j (by omega)⟩
        have hb := (hm (m - 1) (by omega)).1
        have k131 := fun K L Q => @KW_of ftB _ _ _ Q _ _ (s131 N (by omega) h0 w lim i m (by omega) (by omega) (-2) (hx K L))
        rw [show max N (i + m) = N by omega, q] at k131
        unfold encD at k131
        simp only [int] at k131
        simp only [↓vp, vz, Nat.reduceLT, Nat.reduceEqDiff, Nat.reduceLeDiff, Nat.reduceAdd, Nat.reduceSub, Nat.reduceMul, Int.reduceBEq, Int.reduceBNe, Int.reduceLT, Int.reduceLE, Int.reduceEq, reduceIte, reduceCtorEq, da, int, boolA, dr, b1, b2, b4, b7, b8, yy0, yy1, qb, k131, gs]
        refine hret i _ _ hr hno (Heap.get_set_self _ l1) ?_ ?_ ?_ <;> simp only [↓vp, vz, Nat.reduceLT, Nat.reduceEqDiff, Nat.reduceLeDiff, Nat.reduceAdd, Nat.reduceSub, Nat.reduceMul, Int.reduceBEq, Int.reduceBNe, Int.reduceLT, Int.reduceLE, Int.reduceEq, reduceIte, reduceCtorEq, da, int, boolA, b4]
      · have qb : ((m : Int) == n) = false := by simpa using q
        unfold c68R2
        simp only [↓vp, vz, Nat.reduceLT, Nat.reduceEqDiff, Nat.reduceLeDiff, Nat.reduceAdd, Nat.reduceSub, Nat.reduceMul, Int.reduceBEq, Int.reduceBNe, Int.reduceLT, Int.reduceLE, Int.reduceEq, reduceIte, reduceCtorEq, da, int, boolA, dr, b1, b2, b4, b7, b8, yy0, yy1, qb, w1]
        refine next _ K2 (fun hr => ?_) x0 x1 ?_ ?_ ?_ ?_
        · have := hr.2.2.2 m (by omega)
          rcases hst with e | e | e
          · omega
          · omega
          · exact e this.2
        all_goals simp only [↓vp, vz, Nat.reduceLT, Nat.reduceEqDiff, Nat.reduceLeDiff, Nat.reduceAdd, Nat.reduceSub, Nat.reduceMul, Int.reduceBEq, Int.reduceBNe, Int.reduceLT, Int.reduceLE, Int.reduceEq, reduceIte, reduceCtorEq, da, int, boolA, b1, b2, b4]
    cases q1 : (w i == -1) with
    | false =>
      rw [hLP, AW_loop, ← hLP]
      unfold c68L3
      simp only [↓vp, vz, Nat.reduceLT, Nat.reduceEqDiff, Nat.reduceLeDiff, Nat.reduceAdd, Nat.reduceSub, Nat.reduceMul, Int.reduceBEq, Int.reduceBNe, Int.reduceLT, Int.reduceLE, Int.reduceEq, reduceIte, reduceCtorEq, da, int, boolA, dr, f1, f2, f7, y0, lw, g, a0, b0, q1]
      unfold c68R2
      simp only [↓vp, vz, Nat.reduceLT, Nat.reduceEqDiff, Nat.reduceLeDiff, Nat.reduceAdd, Nat.reduceSub, Nat.reduceMul, Int.reduceBEq, Int.reduceBNe, Int.reduceLT, Int.reduceLE, Int.reduceEq, reduceIte, reduceCtorEq, da, int, boolA, dr, f7, w1]
      refine next _ K (fun hr => by have := hr.2.1; rw [this] at q1; cases q1) z0 z1 ?_ ?_ ?_ ?_ <;> simp only [↓vp, vz, Nat.reduceLT, Nat.reduceEqDiff, Nat.reduceLeDiff, Nat.reduceAdd, Nat.reduceSub, Nat.reduceMul, Int.reduceBEq, Int.reduceBNe, Int.reduceLT, Int.reduceLE, Int.reduceEq, reduceIte, reduceCtorEq, da, int, boolA, f1, f2, f4]
    | true =>
      have hw1 : w i = -1 := by simpa using q1
      cases i with
      | zero =>
        rw [hLP, AW_loop, ← hLP]
        unfold c68L3
        have zz : (((0 : Nat) : Int) == 0) = true := rfl
        simp only [↓vp, vz, Nat.reduceLT, Nat.reduceEqDiff, Nat.reduceLeDiff, Nat.reduceAdd, Nat.reduceSub, Nat.reduceMul, Int.reduceBEq, Int.reduceBNe, Int.reduceLT, Int.reduceLE, Int.reduceEq, reduceIte, reduceCtorEq, da, int, boolA, dr, f1, f2, f7, y0, lw, g, a0, b0, q1, zz]
        refine try' _ K hw1 (.inl rfl) z0 z1 ?_ ?_ ?_ ?_ ?_ <;> simp only [↓vp, vz, Nat.reduceLT, Nat.reduceEqDiff, Nat.reduceLeDiff, Nat.reduceAdd, Nat.reduceSub, Nat.reduceMul, Int.reduceBEq, Int.reduceBNe, Int.reduceLT, Int.reduceLE, Int.reduceEq, reduceIte, reduceCtorEq, da, int, boolA, f1, f2, f4, f7]
      | succ j =>
        have gj : j < (WM N w).length := by omega
        have a1 := fun H => @atN H (WM N w) j gj
        have b1 := fun H off k => @cN H (WM N w) j off k gj
        rw [WM_at gj] at b1
        simp only [numC, int] at b1
        have w2 : IntKind.i64.wrap (((j + 1 : Nat) : Int) - 1) = (j : Int) := by rw [wrap_i64 (by omega)]; omega
        have zz : (((j + 1 : Nat) : Int) == 0) = false := by simp; omega
        have ej : (((j + 1 : Nat) : Int) - 1) = (j : Int) := by omega
        cases q2 : (w j != -1) with
        | true =>
          rw [hLP, AW_loop, ← hLP]
          unfold c68L3
          simp only [↓vp, vz, Nat.reduceLT, Nat.reduceEqDiff, Nat.reduceLeDiff, Nat.reduceAdd, Nat.reduceSub, Nat.reduceMul, Int.reduceBEq, Int.reduceBNe, Int.reduceLT, Int.reduceLE, Int.reduceEq, reduceIte, reduceCtorEq, da, int, boolA, dr, f1, f2, f7, y0, lw, g, a0, b0, a1, b1, q1, w2, zz, q2]
          refine try' _ K hw1 (.inr (by rw [ej]; simpa using q2)) z0 z1 ?_ ?_ ?_ ?_ ?_ <;> simp only [↓vp, vz, Nat.reduceLT, Nat.reduceEqDiff, Nat.reduceLeDiff, Nat.reduceAdd, Nat.reduceSub, Nat.reduceMul, Int.reduceBEq, Int.reduceBNe, Int.reduceLT, Int.reduceLE, Int.reduceEq, reduceIte, reduceCtorEq, da, int, boolA, f1, f2, f4, f7]
        | false =>
          rw [hLP, AW_loop, ← hLP]
          unfold c68L3
          simp only [↓vp, vz, Nat.reduceLT, Nat.reduceEqDiff, Nat.reduceLeDiff, Nat.reduceAdd, Nat.reduceSub, Nat.reduceMul, Int.reduceBEq, Int.reduceBNe, Int.reduceLT, Int.reduceLE, Int.reduceEq, reduceIte, reduceCtorEq, da, int, boolA, dr, f1, f2, f7, y0, lw, g, a0, b0, a1, b1, q1, w2, zz, q2]
          unfold c68R2
          simp only [↓vp, vz, Nat.reduceLT, Nat.reduceEqDiff, Nat.reduceLeDiff, Nat.reduceAdd, Nat.reduceSub, Nat.reduceMul, Int.reduceBEq, Int.reduceBNe, Int.reduceLT, Int.reduceLE, Int.reduceEq, reduceIte, reduceCtorEq, da, int, boolA, dr, f7, w1]
          refine next _ K (fun hr => ?_) z0 z1 ?_ ?_ ?_ ?_
          · rcases hr.2.2.1 with e | e
            · omega
            · rw [ej] at e
              have : w j = -1 := by simpa using q2
              exact e this
          all_goals simp only [↓vp, vz, Nat.reduceLT, Nat.reduceEqDiff, Nat.reduceLeDiff, Nat.reduceAdd, Nat.reduceSub, Nat.reduceMul, Int.reduceBEq, Int.reduceBNe, Int.reduceLT, Int.reduceLE, Int.reduceEq, reduceIte, reduceCtorEq, da, int, boolA, f1, f2, f4]
def endD (N : Nat) (w : Int → Int) (A : Nat) : Prop:=A ≤ N ∧ (∀ k : Nat,A ≤ k → k < N → w k = -1) ∧ (A = 0 ∨ w ((A : Int) - 1) ≠ -1)
theorem l68c (n : Int) {Q : AExit → Env → Heap → Prop}
   (hex : ∀ f' K A, endD N w A → K.get 0 = some (.box false [encN (WM N w), int lim]) → K.get 1 = some (.box false [.sc (.slice none 0 0), int 0]) → f' 1 = int n → f' 2 = .ptr 0 0 0 → f' 4 = .ptr 1 0 0 → f' 9 = int A → Q (.exit 4) (mkE 105 f') (hx K [])) :
   ∀ (i : Nat) (K : Heap) (f : Nat → AV), i ≤ N → (∀ k : Nat, i ≤ k → k < N → w k = -1) → K.get 0 = some (.box false [encN (WM N w), int lim]) → K.get 1 = some (.box false [.sc (.slice none 0 0), int 0]) → f 1 = int n → f 2 = .ptr 0 0 0 → f 4 = .ptr 1 0 0 → f 9 = int i →
    AW ftB (.loop c68L4) (mkE 105 f) (hx K []) Q := by
  intro i
  have _q1 := h0
  induction i with
  | zero =>
    intro K f hd hw z0 z1 f1 f2 f4 f9
    have g1 : (((0 : Nat) : Int) > 0) = False := eq_false (by omega)
    rw [AW_loop]
    unfold c68L4
    simp only [↓vp, vz, Nat.reduceLT, Nat.reduceEqDiff, Nat.reduceLeDiff, Nat.reduceAdd, Nat.reduceSub, Nat.reduceMul, Int.reduceBEq, Int.reduceBNe, Int.reduceLT, Int.reduceLE, Int.reduceEq, reduceIte, reduceCtorEq, da, int, boolA, dr, f1, f2, f9, g1]
    refine hex _ K 0 ⟨hd, hw, .inl rfl⟩ z0 z1 ?_ ?_ ?_ ?_ <;> simp only [↓vp, vz, Nat.reduceLT, Nat.reduceEqDiff, Nat.reduceLeDiff, Nat.reduceAdd, Nat.reduceSub, Nat.reduceMul, Int.reduceBEq, Int.reduceBNe, Int.reduceLT, Int.reduceLE, Int.reduceEq, reduceIte, reduceCtorEq, da, int, boolA, f1, f2, f4, f9]
  | succ j ih =>
    intro K f hd hw z0 z1 f1 f2 f4 f9
    have y0 := fun L => get_old z0 L
    simp only [int] at y0
    have lw := WM_len N w
    have gj : j < (WM N w).length := by omega
    have a1 := fun H => @atN H (WM N w) j gj
    have b1 := fun H off k => @cN H (WM N w) j off k gj
    rw [WM_at gj] at b1
    simp only [numC, int] at b1
    have g1 : (((j + 1 : Nat) : Int) > 0) = True := eq_true (by omega)
    have w2 : IntKind.i64.wrap (((j + 1 : Nat) : Int) - 1) = (j : Int) := by rw [wrap_i64 (by omega)]; omega
    have ej : (((j + 1 : Nat) : Int) - 1) = (j : Int) := by omega
    rw [AW_loop]
    unfold c68L4
    cases q2 : (w j == -1) with
    | true =>
      have hj : w j = -1 := by simpa using q2
      simp only [↓vp, vz, Nat.reduceLT, Nat.reduceEqDiff, Nat.reduceLeDiff, Nat.reduceAdd, Nat.reduceSub, Nat.reduceMul, Int.reduceBEq, Int.reduceBNe, Int.reduceLT, Int.reduceLE, Int.reduceEq, reduceIte, reduceCtorEq, da, int, boolA, dr, f1, f2, f9, g1, w2, y0, a1, b1, q2]
      refine ih K _ (by omega) (fun k h1 h2 => ?_) z0 z1 ?_ ?_ ?_ ?_
      · rcases Nat.lt_or_ge j k with e | e
        · exact hw k e h2
        · obtain rfl : k = j := by omega
          exact hj
      all_goals simp only [↓vp, vz, Nat.reduceLT, Nat.reduceEqDiff, Nat.reduceLeDiff, Nat.reduceAdd, Nat.reduceSub, Nat.reduceMul, Int.reduceBEq, Int.reduceBNe, Int.reduceLT, Int.reduceLE, Int.reduceEq, reduceIte, reduceCtorEq, da, int, boolA, f1, f2, f4]
    | false =>
      simp only [↓vp, vz, Nat.reduceLT, Nat.reduceEqDiff, Nat.reduceLeDiff, Nat.reduceAdd, Nat.reduceSub, Nat.reduceMul, Int.reduceBEq, Int.reduceBNe, Int.reduceLT, Int.reduceLE, Int.reduceEq, reduceIte, reduceCtorEq, da, int, boolA, dr, f1, f2, f9, g1, w2, y0, a1, b1, q2]
      refine hex _ K (j + 1) ⟨hd, hw, .inr (by rw [ej]; simpa using q2)⟩ z0 z1 ?_ ?_ ?_ ?_ <;> simp only [↓vp, vz, Nat.reduceLT, Nat.reduceEqDiff, Nat.reduceLeDiff, Nat.reduceAdd, Nat.reduceSub, Nat.reduceMul, Int.reduceBEq, Int.reduceBNe, Int.reduceLT, Int.reduceLE, Int.reduceEq, reduceIte, reduceCtorEq, da, int, boolA, f1, f2, f4, f9]
theorem endD_uniq {A B : Nat} (h : endD N w A) (h' : endD N w B) : A = B:=by
 have _q:=h0; have _q1:=hN; have _q2:=hl
 obtain ⟨a1,a2,a3⟩:=h
 obtain ⟨b1,b2,b3⟩:=h'
 rcases Nat.lt_trichotomy A B with e | e | e
 ·rcases b3 with q | q
  ·omega
  ·have:=a2 (B - 1) (by omega) (by omega)
   rw [show ((B - 1 : Nat) : Int) = (B : Int) - 1 by omega] at this
   exact absurd this q
 ·exact e
 ·rcases a3 with q | q
  ·omega
  ·have:=b2 (A - 1) (by omega) (by omega)
   rw [show ((A - 1 : Nat) : Int) = (A : Int) - 1 by omega] at this
   exact absurd this q
theorem s68 (n : Int) (H : Heap) :
  (n < 1 → callL ftB (.fn (.func 68) [] []) [encD (WM N w) lim,int n] H = some (.tup [encD (WM N w) lim,int 0,int 1],H)) ∧
  (1 ≤ n → ∀ a,roomD N w n a → (∀ b,b < a → ¬ roomD N w n b) → callL ftB (.fn (.func 68) [] []) [encD (WM N w) lim,int n] H = some (.tup [encD (WM N (putW a n (-2) w)) lim,int a,int 0],H)) ∧
  (1 ≤ n → (∀ a,¬ roomD N w n a) → ∀ A,endD N w A → callL ftB (.fn (.func 68) [] []) [encD (WM N w) lim,int n] H =
   some (if n > lim ∨ A + n > lim then .tup [encD (WM N w) lim,int 0,int 12] else .tup [encD (WM (max N (A + n.toNat)) (putW A n (-2) w)) lim,int A,int 0],H)):=by
 have ln : ∀ H,lenV H 0 (encN (WM N w)) = some (.sc (.int .i64 (N : Int)),H):=fun H => by rw [lenN,WM_len]
 refine ⟨fun q1 => ?_,fun q1 a ha hmin => ?_,fun q1 hno A hA => ?_⟩
 ·refine call_p (as':=[encD (WM N w) lim,int n]) rfl rfl (by simp) ?_
  unfold c68 r68 encD
  simp only [↓vp,vz,Nat.reduceLT,Nat.reduceEqDiff,Nat.reduceLeDiff,Nat.reduceAdd,Nat.reduceSub,Nat.reduceMul,Int.reduceBEq,Int.reduceBNe,Int.reduceLT,Int.reduceLE,Int.reduceEq,reduceIte,reduceCtorEq,da,int,boolA,rt,dr,eq_true q1,resC,resT,resN]
 ·refine call_p (as':=[encD (WM N w) lim,int n]) rfl rfl (by simp) ?_
  have d1 : (n < 1) = False:=eq_false (by omega)
  unfold c68 r68 encD
  simp only [↓vp,vz,Nat.reduceLT,Nat.reduceEqDiff,Nat.reduceLeDiff,Nat.reduceAdd,Nat.reduceSub,Nat.reduceMul,Int.reduceBEq,Int.reduceBNe,Int.reduceLT,Int.reduceLE,Int.reduceEq,reduceIte,reduceCtorEq,da,int,boolA,dr,d1]
  rw [← hx_nil (hx Heap.empty _)]
  refine l68 N h0 w lim hN hl n q1 (fun f' K h _ _ _ _ _ => absurd ha (h a)) (fun b f' K hb hbm z1 f4 f5 f6 => ?_) N 0 _ _ (by simp) (fun a h => by omega) rfl rfl ?_ ?_ ?_ ?_
  ·obtain rfl : a = b:=by
    rcases Nat.lt_trichotomy a b with e | e | e
    ·exact absurd ha (hbm a e)
    ·exact e
    ·exact absurd hb (hmin b e)
   have y1:=fun L => get_old z1 L
   simp only [int] at y1
   simp only [↓vp,vz,Nat.reduceLT,Nat.reduceEqDiff,Nat.reduceLeDiff,Nat.reduceAdd,Nat.reduceSub,Nat.reduceMul,Int.reduceBEq,Int.reduceBNe,Int.reduceLT,Int.reduceLE,Int.reduceEq,reduceIte,reduceCtorEq,da,int,boolA,rt,dr,f4,f5,f6,y1,resC,resT,resN]
  ·simp only [↓vp,vz,Nat.reduceLT,Nat.reduceEqDiff,Nat.reduceLeDiff,Nat.reduceAdd,Nat.reduceSub,Nat.reduceMul,Int.reduceBEq,Int.reduceBNe,Int.reduceLT,Int.reduceLE,Int.reduceEq,reduceIte,reduceCtorEq,da,int,boolA]
  ·simp only [↓vp,vz,Nat.reduceLT,Nat.reduceEqDiff,Nat.reduceLeDiff,Nat.reduceAdd,Nat.reduceSub,Nat.reduceMul,Int.reduceBEq,Int.reduceBNe,Int.reduceLT,Int.reduceLE,Int.reduceEq,reduceIte,reduceCtorEq,da,int,boolA]
  ·simp only [↓vp,vz,Nat.reduceLT,Nat.reduceEqDiff,Nat.reduceLeDiff,Nat.reduceAdd,Nat.reduceSub,Nat.reduceMul,Int.reduceBEq,Int.reduceBNe,Int.reduceLT,Int.reduceLE,Int.reduceEq,reduceIte,reduceCtorEq,da,int,boolA]
  ·simp only [↓vp,vz,Nat.reduceLT,Nat.reduceEqDiff,Nat.reduceLeDiff,Nat.reduceAdd,Nat.reduceSub,Nat.reduceMul,Int.reduceBEq,Int.reduceBNe,Int.reduceLT,Int.reduceLE,Int.reduceEq,reduceIte,reduceCtorEq,da,int,boolA]
   try rfl
 ·refine call_p (as':=[encD (WM N w) lim,int n]) rfl rfl (by simp) ?_
  have d1 : (n < 1) = False:=eq_false (by omega)
  unfold c68 r68 encD
  simp only [↓vp,vz,Nat.reduceLT,Nat.reduceEqDiff,Nat.reduceLeDiff,Nat.reduceAdd,Nat.reduceSub,Nat.reduceMul,Int.reduceBEq,Int.reduceBNe,Int.reduceLT,Int.reduceLE,Int.reduceEq,reduceIte,reduceCtorEq,da,int,boolA,dr,d1]
  rw [← hx_nil (hx Heap.empty _)]
  refine l68 N h0 w lim hN hl n q1 (fun f' K _ z0 z1 f1 f2 f4 => ?_) (fun b f' K hb _ _ _ _ _ => absurd hb (hno b)) N 0 _ _ (by simp) (fun a h => by omega) rfl rfl ?_ ?_ ?_ ?_
  ·have y0:=fun L => get_old z0 L
   have lw:=WM_len N w
   simp only [int] at y0
   unfold c68R6
   simp only [↓vp,vz,Nat.reduceLT,Nat.reduceEqDiff,Nat.reduceLeDiff,Nat.reduceAdd,Nat.reduceSub,Nat.reduceMul,Int.reduceBEq,Int.reduceBNe,Int.reduceLT,Int.reduceLE,Int.reduceEq,reduceIte,reduceCtorEq,da,int,boolA,dr,f1,f2,f4,y0,lw]
   refine l68c N h0 w lim hN hl n (fun f2 K2 B hB z0 z1 b1 b2 b4 b9 => ?_) N K _ (Nat.le_refl _) (fun k h1 h2 => by omega) z0 z1 ?_ ?_ ?_ ?_
   ·obtain rfl : A = B:=endD_uniq N h0 w lim hN hl hA hB
    have hA1:=hA.1
    have y0:=fun L => get_old z0 L
    have y1:=fun L => get_old z1 L
    have l1:=Heap.get_lt z1
    have gs : ∀ L b,(hx K2 L).set 1 b = hx (K2.set 1 b) L:=fun L b => hx_set_old K2 L b 1 l1
    have y2 : ∀ b L,(hx (K2.set 1 b) L).get 1 = some b:=fun b L => get_old (Heap.get_set_self _ l1) L
    simp only [int] at y0 y1
    unfold c68R5
    by_cases q2 : n > lim
    ·rw [if_pos (.inl q2)]
     have d2 : (lim < n) = True:=eq_true q2
     simp only [↓vp,vz,Nat.reduceLT,Nat.reduceEqDiff,Nat.reduceLeDiff,Nat.reduceAdd,Nat.reduceSub,Nat.reduceMul,Int.reduceBEq,Int.reduceBNe,Int.reduceLT,Int.reduceLE,Int.reduceEq,reduceIte,reduceCtorEq,da,int,boolA,rt,dr,b1,b2,b4,b9,y0,y1,y2,gs,eq_true q2,d2,resC,resT,resN]
    have d2 : (lim < n) = False:=eq_false q2
    have d2' : (n > lim) = False:=eq_false q2
    have w1 : IntKind.i64.wrap ((A : Int) + n) = A + n:=wrap_i64 (by omega)
    by_cases q3 : (A : Int) + n > lim
    ·rw [if_pos (.inr q3)]
     have d3 : (lim < (A : Int) + n) = True:=eq_true q3
     simp only [↓vp,vz,Nat.reduceLT,Nat.reduceEqDiff,Nat.reduceLeDiff,Nat.reduceAdd,Nat.reduceSub,Nat.reduceMul,Int.reduceBEq,Int.reduceBNe,Int.reduceLT,Int.reduceLE,Int.reduceEq,reduceIte,reduceCtorEq,da,int,boolA,rt,dr,b1,b2,b4,b9,y0,y1,y2,gs,d2,d2',w1,eq_true q3,d3,resC,resT,resN]
    rw [if_neg (by omega)]
    have d3 : (lim < (A : Int) + n) = False:=eq_false q3
    have d3' : ((A : Int) + n > lim) = False:=eq_false q3
    obtain ⟨m,rfl⟩ : ∃ m : Nat,n = m:=⟨n.toNat,by omega⟩
    have k131:=fun K L Q => @KW_of ftB _ _ _ Q _ _ (s131 N (by omega) h0 w lim A m (by omega) (by omega) (-2) (hx K L))
    rw [Int.toNat_natCast]
    unfold encD at k131
    simp only [int] at k131
    simp only [↓vp,vz,Nat.reduceLT,Nat.reduceEqDiff,Nat.reduceLeDiff,Nat.reduceAdd,Nat.reduceSub,Nat.reduceMul,Int.reduceBEq,Int.reduceBNe,Int.reduceLT,Int.reduceLE,Int.reduceEq,reduceIte,reduceCtorEq,da,int,boolA,rt,dr,b1,b2,b4,b9,y0,y1,y2,gs,d2,d2',w1,d3,d3',k131,resC,resT,resN]
   ·simp only [↓vp,vz,Nat.reduceLT,Nat.reduceEqDiff,Nat.reduceLeDiff,Nat.reduceAdd,Nat.reduceSub,Nat.reduceMul,Int.reduceBEq,Int.reduceBNe,Int.reduceLT,Int.reduceLE,Int.reduceEq,reduceIte,reduceCtorEq,da,int,boolA,f1]
   ·simp only [↓vp,vz,Nat.reduceLT,Nat.reduceEqDiff,Nat.reduceLeDiff,Nat.reduceAdd,Nat.reduceSub,Nat.reduceMul,Int.reduceBEq,Int.reduceBNe,Int.reduceLT,Int.reduceLE,Int.reduceEq,reduceIte,reduceCtorEq,da,int,boolA,f2]
   ·simp only [↓vp,vz,Nat.reduceLT,Nat.reduceEqDiff,Nat.reduceLeDiff,Nat.reduceAdd,Nat.reduceSub,Nat.reduceMul,Int.reduceBEq,Int.reduceBNe,Int.reduceLT,Int.reduceLE,Int.reduceEq,reduceIte,reduceCtorEq,da,int,boolA,f4]
   ·simp only [↓vp,vz,Nat.reduceLT,Nat.reduceEqDiff,Nat.reduceLeDiff,Nat.reduceAdd,Nat.reduceSub,Nat.reduceMul,Int.reduceBEq,Int.reduceBNe,Int.reduceLT,Int.reduceLE,Int.reduceEq,reduceIte,reduceCtorEq,da,int,boolA]
  ·simp only [↓vp,vz,Nat.reduceLT,Nat.reduceEqDiff,Nat.reduceLeDiff,Nat.reduceAdd,Nat.reduceSub,Nat.reduceMul,Int.reduceBEq,Int.reduceBNe,Int.reduceLT,Int.reduceLE,Int.reduceEq,reduceIte,reduceCtorEq,da,int,boolA]
  ·simp only [↓vp,vz,Nat.reduceLT,Nat.reduceEqDiff,Nat.reduceLeDiff,Nat.reduceAdd,Nat.reduceSub,Nat.reduceMul,Int.reduceBEq,Int.reduceBNe,Int.reduceLT,Int.reduceLE,Int.reduceEq,reduceIte,reduceCtorEq,da,int,boolA]
  ·simp only [↓vp,vz,Nat.reduceLT,Nat.reduceEqDiff,Nat.reduceLeDiff,Nat.reduceAdd,Nat.reduceSub,Nat.reduceMul,Int.reduceBEq,Int.reduceBNe,Int.reduceLT,Int.reduceLE,Int.reduceEq,reduceIte,reduceCtorEq,da,int,boolA]
  ·simp only [↓vp,vz,Nat.reduceLT,Nat.reduceEqDiff,Nat.reduceLeDiff,Nat.reduceAdd,Nat.reduceSub,Nat.reduceMul,Int.reduceBEq,Int.reduceBNe,Int.reduceLT,Int.reduceLE,Int.reduceEq,reduceIte,reduceCtorEq,da,int,boolA]
   try rfl
end
end Go.VI
namespace Go.VI
attribute [local congr] AW_congr OW_congr DW_congr NW_congr VW_congr GW_congr PW_congr KW_congr ite_congr' GV_congr CV_congr KF_congr
noncomputable def ftB16 : FT
 | 16 => some (.go true 194 r16 c16)
 | k => ftB k
theorem ftB16_sub : Sub ftB ftB16:=by
 intro k d h
 unfold ftB16
 split
 ·exact absurd h (by unfold ftB; simp)
 ·exact h
theorem pw_cases {α : Type} {R : α → α → Prop} : ∀ {l : List α},l.Pairwise R → ∀ {a b : α},a ∈ l → b ∈ l → a = b ∨ R a b ∨ R b a
 | [],_,_,_,ha,_ => by cases ha
 | x :: l,h,a,b,ha,hb => by
  obtain ⟨h1,h2⟩:=List.pairwise_cons.1 h
  rcases List.mem_cons.1 ha with e | ha' <;> rcases List.mem_cons.1 hb with e' | hb'
  ·exact .inl (e.trans e'.symm)
  ·exact .inr (.inl (e ▸ h1 b hb'))
  ·exact .inr (.inr (e' ▸ h1 a ha'))
  ·exact pw_cases h2 ha' hb'
section
variable {p : PoolM} {w : Int → Int} (h : PRel p w)
include h
theorem PRel.nat : ((p.pages.toNat : Nat) : Int) = p.pages:=by have:=h.lo; omega
theorem PRel.runs1 : runsM (tab p.pages.toNat fun k => w k == -1 || ((-1 : Int) == -3 && decide (w k ≥ 0))) = p.free:=by
 have hp:=h.nat; have hlo:=h.lo; have hle:=h.le; have hhi:=h.hi
 refine runs_tab (by omega) h.rf (fun k hk => ?_) fun k hk => ?_
 ·have:=h.rg k (by rw [(h.free k).1 hk]; decide)
  omega
 ·refine beq_iff' ?_
  rw [h.free]
  simp
theorem PRel.runs3 : runsM (tab p.pages.toNat fun k => w k == -3 || ((-3 : Int) == -3 && decide (w k ≥ 0))) = unionSel (fun _ => true) p.held:=by
 have hp:=h.nat; have hlo:=h.lo; have hle:=h.le; have hhi:=h.hi
 refine runs_tab (by omega) (unionSel_ok _ _).1 (fun k hk => ?_) fun k hk => ?_
 ·have:=h.rg k (by rw [h.all] at hk; omega)
  omega
 ·refine beq_iff' ?_
  rw [h.all]
  have:=h.ge k
  simp
  omega
theorem PRel.runsF (t : Int) : runsM (tab p.pages.toNat fun k => decide (w k > -2) && (w k != t || decide (t < 0))) = unionM p.free (unionSel (fun k => k != t) p.held):=by
 have hp:=h.nat; have hlo:=h.lo; have hle:=h.le; have hhi:=h.hi
 obtain ⟨s1,s2⟩:=h.state t
 refine runs_tab (by omega) s1 (fun k hk => ?_) fun k hk => ?_
 ·have:=h.rg k (by rw [s2] at hk; omega)
  omega
 ·refine beq_iff' ?_
  rw [s2]
  have:=h.ge k
  simp
  omega
theorem PRel.runsG (t : Int) : (if t ≥ 0 then runsM (tab p.pages.toNat fun k => w k == t || (t == -3 && decide (w k ≥ 0))) else []) = (getO t p.held).getD []:=by
 have hp:=h.nat; have hlo:=h.lo; have hle:=h.le; have hhi:=h.hi
 by_cases c : t ≥ 0
 ·rw [if_pos c]
  obtain ⟨g1,g2⟩:=h.get c
  refine runs_tab (by omega) g1 (fun k hk => ?_) fun k hk => ?_
  ·have:=h.rg k (by rw [g2] at hk; omega)
   omega
  ·refine beq_iff' ?_
   rw [g2]
   simp
   omega
 ·rw [if_neg c]
  cases e : getO t p.held with
  | none => rfl
  | some l => exact absurd (h.key _ (getO_mem e)) c
theorem PRel.growD {n : Int} : ∃ w',(∀ H,callL ftB (.fn (.func 71) [] []) [encD (WM p.pages.toNat w) p.limit,int n] H = some (.tup [encD (WM (growP p n).1.pages.toNat w') p.limit,int (growP p n).2.1,int (growP p n).2.2],H)) ∧ PRel (growP p n).1 w' ∧ (growP p n).1.limit = p.limit ∧ (growP p n).1.held = p.held:=by
 have hp:=h.nat; have hlo:=h.lo; have hle:=h.le; have hhi:=h.hi
 have s:=fun H => s71 p.pages.toNat (by omega) w p.limit (by omega) hhi n H
 by_cases q1 : n < 1
 ·simp only [if_pos q1] at s
  have e : growP p n = (p,0,1):=by unfold growP; rw [if_pos q1]
  rw [e]
  exact ⟨w,s,h,rfl,rfl⟩
 simp only [if_neg q1] at s
 rcases h.grow (n:=n) (by omega) with ⟨q2,e⟩ | ⟨q2,e,r⟩
 ·simp only [if_pos (show n > p.limit ∨ ((p.pages.toNat : Nat) : Int) + n > p.limit by omega)] at s
  rw [e]
  exact ⟨w,s,h,rfl,rfl⟩
 ·simp only [hp] at s
  simp only [if_neg (show ¬ (n > p.limit ∨ p.pages + n > p.limit) by omega)] at s
  rw [e]
  refine ⟨w,fun H => ?_,r,rfl,rfl⟩
  rw [s H,show (p.pages + n).toNat = p.pages.toNat + n.toNat by omega]
  rw [WM_congr (v:=putW p.pages n (-2) w) (w:=w) fun k hk => ?_]
  unfold putW
  split
  ·by_cases q : w k = -2
   ·exact q.symm
   ·have:=h.rg k q
    omega
  ·rfl
theorem PRel.settleD' {x o : Int} (hx : 0 ≤ x) (hx2 : x ≤ 9223372036854775807) : ∀ H,callL ftB (.fn (.func 70) [] []) [encD (WM p.pages.toNat w) p.limit,int x,int o] H = some (encD (WM p.pages.toNat (settleW x o w)) p.limit,H):=fun H => by
 have hp:=h.nat; have hlo:=h.lo; have hle:=h.le; have hhi:=h.hi
 have s:=s70 p.pages.toNat (by omega) w p.limit (by omega) hhi x o H
 rw [s,WM_congr (v:=Go.VI.settleD x o w) (w:=settleW x o w) fun k hk => ?_]
 have w1 : IntKind.i64.wrap (x - 1) = x - 1:=wrap_i64 (by omega)
 have w2 : IntKind.i64.wrap (x - 2) = x - 2:=wrap_i64 (by omega)
 have he : (oldD x o (w k) = true) ↔ (0 ≤ w k ∧ oldB x o (w k) = true):=by
  unfold oldD oldB
  rw [w1,w2]
  simp
  omega
 unfold Go.VI.settleD settleW
 by_cases q : oldD x o (w k) = true
 ·rw [if_pos q,if_pos (he.1 q)]
 ·rw [if_neg q,if_neg fun z => q (he.2 z)]
theorem PRel.giveD' (hn : (p.held.map (·.1)).Nodup) (t : Int) (x : RunM) : ∃ w',(∀ H,callL ftB (.fn (.func 69) [] []) [encD (WM p.pages.toNat w) p.limit,int t,.agg (runC x)] H = some (.tup [encD (WM p.pages.toNat w') p.limit,int (giveE p t x)],H)) ∧ PRel (giveP p t x) w' ∧ (giveP p t x).limit = p.limit ∧ (giveP p t x).pages = p.pages:=by
 have hp:=h.nat; have hlo:=h.lo; have hle:=h.le; have hhi:=h.hi
 have s1:=fun H => (s69 p.pages.toNat (by omega) w p.limit (by omega) hhi t x H).1
 have s2:=fun H => (s69 p.pages.toNat (by omega) w p.limit (by omega) hhi t x H).2.1
 have s3:=fun H => (s69 p.pages.toNat (by omega) w p.limit (by omega) hhi t x H).2.2
 have hb : giveBadD p.pages.toNat t x = true ↔ giveE p t x = 1:=by
  rw [h.giveBad]
  unfold giveBadD
  have ex : endM x = x.1 + x.2:=rfl
  rw [hp,ex]
  cases mayM x <;> simp [or_assoc]
 by_cases q : giveE p t x = 1
 ·have e : giveP p t x = p:=by unfold giveP; rw [if_neg (by rw [q]; decide)]
  rw [e,q]
  exact ⟨w,fun H => s1 H (hb.2 q),h,rfl,rfl⟩
 have hb' : giveBadD p.pages.toNat t x = false:=by
  cases e : giveBadD p.pages.toNat t x with
  | false => rfl
  | true => exact absurd (hb.1 e) q
 have ex : endM x = x.1 + x.2:=rfl
 rcases h.giveHit q with e | ⟨e,k,k1,k2,k3⟩
 ·obtain ⟨_,_,_,_,a,r⟩:=h.give hn e
  have e1 : (giveP p t x).limit = p.limit ∧ (giveP p t x).pages = p.pages:=by unfold giveP; rw [if_pos e]; exact ⟨rfl,rfl⟩
  rw [e]
  exact ⟨_,fun H => s3 H hb' (fun k a1 a2 => a k a1 (by omega)),r,e1.1,e1.2⟩
 ·have e1 : giveP p t x = p:=by unfold giveP; rw [if_neg (by rw [e]; decide)]
  rw [e1,e]
  exact ⟨w,fun H => s2 H hb' ⟨k,k1,by omega,k3⟩,h,rfl,rfl⟩
theorem PRel.takeD {n : Int} : ∃ w',(∀ H,callL ftB (.fn (.func 68) [] []) [encD (WM p.pages.toNat w) p.limit,int n] H = some (.tup [encD (WM (takeP p n).1.pages.toNat w') p.limit,int (takeP p n).2.1,int (takeP p n).2.2],H)) ∧ PRel (takeP p n).1 w' ∧ (takeP p n).1.limit = p.limit:=by
 have hp:=h.nat; have hlo:=h.lo; have hle:=h.le; have hhi:=h.hi
 have hlim:=(h.takeX n).2
 have s1:=fun H => (s68 p.pages.toNat (by omega) w p.limit (by omega) hhi n H).1
 have s2:=fun H => (s68 p.pages.toNat (by omega) w p.limit (by omega) hhi n H).2.1
 have s3:=fun H => (s68 p.pages.toNat (by omega) w p.limit (by omega) hhi n H).2.2
 by_cases q1 : n < 1
 ·have e : takeP p n = (p,0,1):=by unfold takeP; rw [if_pos q1]
  rw [e]
  exact ⟨w,fun H => s1 H q1,h,rfl⟩
 have mf:=(right_iff.1 h.rf).1
 have inFree : ∀ k : Int,w k = -1 → ∃ z ∈ p.free,z.1 ≤ k ∧ k < z.1 + z.2:=fun k hk => by
  obtain ⟨z,hz,a,b⟩:=inR_t.1 ((h.free k).2 hk)
  exact ⟨z,hz,a,b⟩
 have whole : ∀ z ∈ p.free,∀ k,z.1 ≤ k → k < z.1 + z.2 → w k = -1:=fun z hz k a b => (h.free k).1 (inR_t.2 ⟨z,hz,a,b⟩)
 have pw:=(right_iff.1 h.rf).2
 have ends : ∀ z ∈ p.free,w (z.1 + z.2) ≠ -1 ∧ w (z.1 - 1) ≠ -1:=fun z hz => by
  have mz:=mayM_iff.1 (mf z hz)
  have ez : endM z = z.1 + z.2:=rfl
  refine ⟨fun q => ?_,fun q => ?_⟩
  ·obtain ⟨y,hy,a,b⟩:=inFree _ q
   have ey : endM y = y.1 + y.2:=rfl
   rcases pw_cases pw hz hy with e | e | e
   ·rw [← e] at a b; omega
   ·omega
   ·omega
  ·obtain ⟨y,hy,a,b⟩:=inFree _ q
   have ey : endM y = y.1 + y.2:=rfl
   rcases pw_cases pw hz hy with e | e | e
   ·rw [← e] at a b; omega
   ·omega
   ·omega
 have room_run : ∀ a,roomD p.pages.toNat w n a → ∃ z ∈ p.free,z.1 = a ∧ n ≤ z.2:=fun a ha => by
  obtain ⟨a1,a2,a3,a4⟩:=ha
  obtain ⟨z,hz,b1,b2⟩:=inFree a a2
  have z1 : z.1 = a:=by
   rcases a3 with e | e
   ·have:=h.rg (a : Int) (by rw [a2]; decide)
    omega
   ·by_cases q : z.1 = (a : Int)
    ·exact q
    ·exact absurd (whole z hz ((a : Int) - 1) (by omega) (by omega)) e
  refine ⟨z,hz,z1,?_⟩
  by_cases q : n ≤ z.2
  ·exact q
  ·have mz:=mayM_iff.1 (mf z hz)
   have:=(a4 z.2.toNat (by omega)).2
   rw [show ((a + z.2.toNat : Nat) : Int) = z.1 + z.2 by omega] at this
   exact absurd this (ends z hz).1
 have run_room : ∀ z ∈ p.free,n ≤ z.2 → roomD p.pages.toNat w n z.1.toNat:=fun z hz hn => by
  have mz:=mayM_iff.1 (mf z hz)
  have r1:=h.rg z.1 (by rw [whole z hz z.1 (by omega) (by omega)]; decide)
  have r2:=h.rg (z.1 + z.2 - 1) (by rw [whole z hz (z.1 + z.2 - 1) (by omega) (by omega)]; decide)
  have ez : ((z.1.toNat : Nat) : Int) = z.1:=by omega
  refine ⟨by omega,?_,.inr ?_,fun j hj => ⟨by omega,?_⟩⟩
  ·rw [ez]; exact whole z hz z.1 (by omega) (by omega)
  ·rw [ez]; exact (ends z hz).2
  ·exact whole z hz _ (by omega) (by omega)
 rcases h.take (n:=n) (by omega) with ⟨y,y1,y2,y3,y4,y5,y6,y7⟩ | ⟨y1,y2,y3,y4⟩ | ⟨y1,y2,y3,y4,y5,y6,y7⟩
 ·have my:=mayM_iff.1 (mf y y1)
  have ey : ((y.1.toNat : Nat) : Int) = y.1:=by omega
  have hmin : ∀ b,b < y.1.toNat → ¬ roomD p.pages.toNat w n b:=fun b hb hr => by
   obtain ⟨z,hz,z1,z2⟩:=room_run b hr
   obtain ⟨_,l1,l2,hl,has⟩:=List.find?_eq_some_iff_append.1 y2
   rw [hl] at hz pw
   rcases List.mem_append.1 hz with hz | hz
   ·have:=has z hz
    unfold takeB at this
    rw [decide_eq_true (show 1 ≤ n by omega),decide_eq_true z2] at this
    cases this
   ·rcases List.mem_cons.1 hz with rfl | hz
    ·omega
    ·have:=(List.pairwise_cons.1 (List.pairwise_append.1 pw).2.1).1 z hz
     have ey : endM y = y.1 + y.2:=rfl
     omega
  have s:=fun H => s2 H (by omega) y.1.toNat (run_room y y1 y3) hmin
  simp only [ey] at s
  rw [y6,y5]
  exact ⟨_,s,y7,hlim⟩
 ·obtain ⟨t0,t1,t2,t3,t4⟩:=h.tail
  have hno : ∀ a,¬ roomD p.pages.toNat w n a:=fun a hr => by
   obtain ⟨z,hz,z1,z2⟩:=room_run a hr
   have:=List.find?_eq_none.1 y1 z hz
   unfold takeB at this
   rw [decide_eq_true (show 1 ≤ n by omega),decide_eq_true z2] at this
   exact this rfl
  have hA : endD p.pages.toNat w (p.pages - tailP p).toNat:=⟨by omega,fun k a b => t2 k (by omega) (by omega),.inr (by rw [show (((p.pages - tailP p).toNat : Nat) : Int) - 1 = p.pages - tailP p - 1 by omega]; exact t3)⟩
  have s:=fun H => s3 H (by omega) hno _ hA
  simp only [if_pos (show n > p.limit ∨ (((p.pages - tailP p).toNat : Nat) : Int) + n > p.limit by omega)] at s
  rw [y4]
  exact ⟨w,s,h,rfl⟩
 ·obtain ⟨t0,t1,t2,t3,t4⟩:=h.tail
  have hno : ∀ a,¬ roomD p.pages.toNat w n a:=fun a hr => by
   obtain ⟨z,hz,z1,z2⟩:=room_run a hr
   have:=List.find?_eq_none.1 y1 z hz
   unfold takeB at this
   rw [decide_eq_true (show 1 ≤ n by omega),decide_eq_true z2] at this
   exact this rfl
  have hA : endD p.pages.toNat w (p.pages - tailP p).toNat:=⟨by omega,fun k a b => t2 k (by omega) (by omega),.inr (by rw [show (((p.pages - tailP p).toNat : Nat) : Int) - 1 = p.pages - tailP p - 1 by omega]; exact t3)⟩
  have s:=fun H => s3 H (by omega) hno _ hA
  have eA : (((p.pages - tailP p).toNat : Nat) : Int) = p.pages - tailP p:=by omega
  have em : max p.pages.toNat ((p.pages - tailP p).toNat + n.toNat) = (p.pages - tailP p + n).toNat:=by
   by_cases q : 0 < tailP p
   ·have:=y6 q; omega
   ·omega
  simp only [eA,em] at s
  simp only [if_neg (show ¬ (n > p.limit ∨ p.pages - tailP p + n > p.limit) by omega)] at s
  rw [y5,y4]
  exact ⟨_,s,y7,hlim⟩
end
section
variable {K : Heap} {pid mid : Nat} {p : PoolM} {bs : List Nat} {ck : Nat} (hp : PoolH K pid mid p bs ck) {w : Int → Int} (hr : PRel p w) {t : Int} {Q : AV → Heap → Prop}
include hp hr
theorem o67 (hq : ∀ L,Q (boolA true) (hx K L)) : KW ftB (.fn (.func 67) [] []) [.ptr pid 0 0,encD (WM p.pages.toNat w) p.limit,int t] K Q:=by
 refine call_W rfl (by simp) ?_
 unfold c67 r67 encD
 have hn:=hr.nat
 have hlo:=hr.lo
 have hle:=hr.le
 have hhi:=hr.hi
 have k59:=fun L Q => @o59 (hx K L) pid mid p bs ck (pool_hx hp L) Q
 have k60:=fun L Q => @o60 (hx K L) pid mid p bs ck (pool_hx hp L) Q
 have k63:=fun L Q => @o63 (hx K L) pid mid p bs ck (pool_hx hp L) Q
 have k74:=fun L Q => @o74 (hx K L) pid mid p bs ck (pool_hx hp L) t Q
 have uT:=(unionSel_ok (fun _ => true) p.held).1
 have lf:=right_len hr.rf
 have lu:=right_len uT
 have lF:=right_len (hr.state t).1
 have lG : ((getO t p.held).getD []).length ≤ 40000:=by
  cases e : getO t p.held with
  | none => simp
  | some l => exact right_len (hp.hd.rg _ (getO_mem e))
 have k127a:=fun K L Q => @KW_of ftB _ _ _ Q _ _ (s127 p.pages.toNat (by omega) (by omega) w p.limit (-1) (hx K L))
 have k127b:=fun K L Q => @KW_of ftB _ _ _ Q _ _ (s127 p.pages.toNat (by omega) (by omega) w p.limit (-3) (hx K L))
 have k130:=fun K L Q => @KW_of ftB _ _ _ Q _ _ (s130 p.pages.toNat (by omega) (by omega) w p.limit t (hx K L))
 rw [hr.runs1] at k127a
 rw [hr.runs3] at k127b
 rw [hr.runsF,hr.runsG] at k130
 have lw:=WM_len p.pages.toNat w
 generalize unionM p.free (unionSel (fun k => k != t) p.held) = F at *
 generalize (getO t p.held).getD [] = G at *
 generalize unionSel (fun _ => true) p.held = U at *
 have k62a:=fun K L Q => @KW_of ftB _ _ _ Q _ _ (s62 p.free (by omega) (hx K L))
 have k62b:=fun K L Q => @KW_of ftB _ _ _ Q _ _ (s62 U (by omega) (hx K L))
 have k129:=fun K L Q => @KW_of ftB _ _ _ Q _ _ (s129 F G (by omega) (by omega) (hx K L))
 have k128:=fun K L Q => @KW_of ftB _ _ _ Q _ _ (s128 F G F G (by omega) (by omega) (hx K L))
 have k45a:=fun H Q => @kB45 H Q p.free p.free (by omega)
 have k45b:=fun H Q => @kB45 H Q U U (by omega)
 rw [same_refl] at k45a k45b
 rw [same_refl,same_refl] at k128
 have xf : ∀ q,exFQ (none : FP).isSome q = q:=fun q => by cases q <;> rfl
 have v59 : ∀ args,pureV ftB (.fn (.func 59) [] []) args = none:=fun _ => rfl
 have v60 : ∀ args,pureV ftB (.fn (.func 60) [] []) args = none:=fun _ => rfl
 have v63 : ∀ args,pureV ftB (.fn (.func 63) [] []) args = none:=fun _ => rfl
 have v74 : ∀ args,pureV ftB (.fn (.func 74) [] []) args = none:=fun _ => rfl
 have v59t : ∀ args,pureV ftB (.tup [.fn (.func 59) [] []]) args = none:=fun _ => rfl
 have v60t : ∀ args,pureV ftB (.tup [.fn (.func 60) [] []]) args = none:=fun _ => rfl
 have v63t : ∀ args,pureV ftB (.tup [.fn (.func 63) [] []]) args = none:=fun _ => rfl
 have v74t : ∀ args,pureV ftB (.tup [.fn (.func 74) [] []]) args = none:=fun _ => rfl
 have v62 : ∀ l : List RunM,pureV ftB (.fn (.func 62) [] []) [encR l] = some (false,[]):=fun _ => rfl
 have v129 : pureV ftB (.fn (.func 129) [] []) [.agg [encR F,encR G]] = some (false,[]):=rfl
 have sJ : ∀ b L M,sameAt (hx K (b :: L)) (hx K (b :: M)) [K.next] = true:=fun b L M => by rw [sameAt1,hx_get0,hx_get0]; rfl
 have c1 : (p.pages == ((p.pages.toNat : Nat) : Int)) = true:=by rw [hn]; simp
 unfold encD at k127a k127b k130
 simp only [int,boolA,hn] at k59 k60 k63 k74 k127a k127b k130 k62a k62b k129 k128 k45a k45b c1
 simp only [↓vp,vz,Nat.reduceLT,Nat.reduceEqDiff,Nat.reduceLeDiff,Nat.reduceAdd,Nat.reduceSub,Nat.reduceMul,Int.reduceBEq,Int.reduceBNe,Int.reduceLT,Int.reduceLE,Int.reduceEq,reduceIte,reduceCtorEq,da,int,boolA,dr,k59,k60,k63,k74,k127a,k127b,k130,k62a,k62b,k129,k128,k45a,k45b,c1,hn,lw,v59,v60,v63,v74,v59t,v60t,v63t,v74t,v62,v129,sJ,xf,mkFQ_n,compat_al,compat_la,hx_hx]
 refine ⟨?_,?_⟩
 ·show sameAt _ _ [] = true
  rw [sameAt_iff]
  intro i hi
  cases hi
 ·rw [rw1]
  refine ⟨rfl,?_⟩
  simp only [↓vp,vz,Nat.reduceLT,Nat.reduceEqDiff,Nat.reduceLeDiff,Nat.reduceAdd,Nat.reduceSub,Nat.reduceMul,Int.reduceBEq,Int.reduceBNe,Int.reduceLT,Int.reduceLE,Int.reduceEq,reduceIte,reduceCtorEq,da,int,boolA]
  exact hq _
end
def M16 : ACode:=sqB (sqA (sqB (sqB c16L0)))
def c16T : ACode:=sqB (sqB M16)
def c16D : ACode:=sqB (sqB (sqA (sqB M16)))
theorem c16L0_eq : c16L0 = (.seq (.region [⟨(some 84),(.bin .lss 3 (.tmp 83) (.tmp 82)),none⟩] false []) (.seq (.cond (.tmp 84) .skip (.exit 0)) (.seq (.block 1 (.seq (.region [⟨(some 85),(.iaddr none 5 (.tmp 81) (.tmp 83)),none⟩,⟨(some 86),(.load true 5 (.tmp 85)),none⟩,⟨(some 12),(.alloc [(.sc (.int .i64 0)),(.sc (.int .i64 0)),(.sc (.int .i64 0)),(.sc (.int .i64 0)),(.sc (.int .i64 0))]),none⟩,⟨none,(.store 5 (.tmp 12) (.tmp 86)),none⟩] false []) (.seq (.seq (.region [⟨(some 87),(.faddr 0 (.tmp 12)),none⟩,⟨(some 88),(.load false 1 (.tmp 87)),none⟩] false []) (.block 2 c16D)) c16T)))
 (.region [⟨(some 192),(.bin .add 3 (.tmp 83) (.const (.int .i64 1))),none⟩,⟨(some 83),(.mov (.tmp 192)),none⟩] false [])))):=rfl
def rBox (p : PoolM) (w : Int → Int) : Blk:=.box false [encN (WM p.pages.toNat w),int p.limit]
section
variable {K : Heap} {pid mid rid j : Nat} {p : PoolM} {w : Int → Int} {bs : List Nat} {ck : Nat} (hp : PoolH K pid mid p bs ck) (hr : PRel p w) {o : OpM} (hj : K.get j = some (.box false (pOpC o))) (hb : K.get rid = some (rBox p w)) {f : Nat → AV}
 (h7 : f 7 = .ptr pid 0 0) (h9 : f 9 = .ptr rid 0 0) (h12 : f 12 = .ptr j 0 0) {Q : AExit → Env → Heap → Prop}
include hp hr hj hb h7 h9 h12
theorem d16 (h88 : f 88 = int o.kind) (hbad : opBad o = false) (hx2 : o.txid ≤ 9223372036854775807) (hn : ∀ f' K' pid' mid' p' w' bs' ck',PoolH K' pid' mid' p' bs' ck' → PRel p' w' → K'.get rid = some (rBox p' w') → K'.get j = some (.box false (pOpC o)) →
   f' 7 = .ptr pid' 0 0 → f' 9 = f 9 → f' 12 = f 12 → f' 81 = f 81 → f' 82 = f 82 → f' 83 = f 83 → Q .normal (mkE 194 f') (hx K' [])) : AW ftB c16D (mkE 194 f) (hx K []) Q:=by
 have lid:=Heap.get_lt hp.box
 have lmd:=Heap.get_lt hp.map
 have lrd:=Heap.get_lt hb
 have ljd:=Heap.get_lt hj
 have y0:=fun L => get_old hj L
 have y1:=fun L => get_old hb L
 have r1 : rid ≠ pid:=fun e => by have:=hp.box; rw [← e,hb] at this; simp [rBox,boxP] at this
 have r2 : rid ≠ mid:=fun e => by have:=hp.map; rw [← e,hb] at this; simp [rBox] at this
 have j1 : j ≠ pid:=fun e => by have:=hp.box; rw [← e,hj] at this; simp [pOpC,boxP] at this
 have j2 : j ≠ mid:=fun e => by have:=hp.map; rw [← e,hj] at this; simp [pOpC] at this
 have j3 : j ≠ rid:=fun e => by rw [e,hb] at hj; simp [pOpC,rBox] at hj
 have bn : ∀ x : Int,(x != x) = false:=fun x => by simp
 simp only [pOpC,int] at y0
 simp only [rBox,int] at y1
 have gsr : ∀ (X Y : Blk) L,(hx (K.set pid X) L).set rid Y = hx ((K.set pid X).set rid Y) L:=fun X Y L => hx_set_old _ L Y rid (by rw [Heap.next_set]; exact lrd)
 have g0 : ∀ (X x : Blk) L,(hx (K.set pid X) (x :: L)).get K.next = some x:=fun X x L => by
  have h:=(hx_get0 _ _ : (hx (K.set pid X) (x :: L)).get (K.set pid X).next = some x)
  rwa [Heap.next_set] at h
 have g1 : ∀ X L,(hx (K.set pid X) L).get rid = _:=fun X L => get_old (by rw [Heap.get_set_ne _ r1]; exact hb) L
 have put2 : ∀ (p' : PoolM) (w' : Int → Int) (x : Blk),p'.held = p.held → PRel p' w' → PoolH (hx ((K.set pid (boxP p' mid)).set rid (rBox p' w')) [x]) pid mid p' bs ck ∧ (hx ((K.set pid (boxP p' mid)).set rid (rBox p' w')) [x]).get rid = some (rBox p' w') ∧ (hx ((K.set pid (boxP p' mid)).set rid (rBox p' w')) [x]).get j = some (.box false (pOpC o)):=fun p' w' x e r => by
  have h1 : PoolH (K.set pid (boxP p' mid)) pid mid p' bs ck:=pool_put hp e r.rf
  refine ⟨pool_hx ⟨by rw [Heap.get_set_ne _ r1.symm]; exact h1.box,by rw [Heap.get_set_ne _ r2.symm]; exact h1.map,h1.hd,h1.free⟩ _,get_old (Heap.get_set_self _ (by rw [Heap.next_set]; exact lrd)) _,get_old ?_ _⟩
  rw [Heap.get_set_ne _ j3,Heap.get_set_ne _ j1]
  exact hj
 simp only [rBox,int] at g1
 unfold c16D M16 c16L0
 simp only [sqA,sqB]
 cases e0 : (o.kind == 0) with
 | true =>
  obtain ⟨w',s,r,e⟩:=hr.takeD (n:=o.n)
  have k68:=fun K L Q => @KW_of ftB _ _ _ Q _ _ (s (hx K L))
  have k61 : ∀ L Q,KW ftB (.fn (.func 61) [] []) [.ptr pid 0 0,int o.n] (hx K L) Q ↔ Q (.tup [int (takeP p o.n).2.1,int (takeP p o.n).2.2]) (hx (K.set pid (boxP (takeP p o.n).1 mid)) L):=fun L Q => by rw [← hx_set_old K L _ _ lid]; exact o61 (pool_hx hp L) hr.ok _
  unfold encD at k68
  simp only [int] at k61 k68
  simp only [↓vp,vz,Nat.reduceLT,Nat.reduceEqDiff,Nat.reduceLeDiff,Nat.reduceAdd,Nat.reduceSub,Nat.reduceMul,Int.reduceBEq,Int.reduceBNe,Int.reduceLT,Int.reduceLE,Int.reduceEq,reduceIte,reduceCtorEq,da,int,boolA,dr,h7,h9,h12,h88,e0,y0,y1,k68,k61,g0,g1,gsr,bn]
  rw [← hx_nil (hx _ _)]
  have z:=put2 (takeP p o.n).1 w' (.box false [encN (WM (takeP p o.n).1.pages.toNat w'),int p.limit]) (take_held _ _) r
  unfold rBox at z
  rw [e] at z
  refine hn _ _ _ _ _ w' _ _ z.1 r ?_ z.2.2 ?_ ?_ ?_ ?_ ?_ ?_
  ·unfold rBox
   rw [e]
   exact z.2.1
  all_goals simp only [↓vp,vz,Nat.reduceLT,Nat.reduceEqDiff,Nat.reduceLeDiff,Nat.reduceAdd,Nat.reduceSub,Nat.reduceMul,Int.reduceBEq,Int.reduceBNe,Int.reduceLT,Int.reduceLE,Int.reduceEq,reduceIte,reduceCtorEq,da,int,boolA,h7,h9,h12]
 | false =>
 cases e1 : (o.kind == 1) with
 | true =>
  obtain ⟨w',s,r,e,e'⟩:=hr.giveD' hp.hd.keys o.txid (o.at',o.len)
  have k69:=fun K L Q => @KW_of ftB _ _ _ Q _ _ (s (hx K L))
  have gsr' : ∀ (Y : Blk) L,(hx K L).set rid Y = hx (K.set rid Y) L:=fun Y L => hx_set_old _ L Y rid lrd
  have y0' : ∀ X L,(hx (K.set rid X) L).get j = _:=fun X L => get_old (by rw [Heap.get_set_ne _ j3]; exact hj) L
  simp only [pOpC,int] at y0'
  unfold encD at k69
  simp only [runC,int] at k69
  simp only [↓vp,vz,Nat.reduceLT,Nat.reduceEqDiff,Nat.reduceLeDiff,Nat.reduceAdd,Nat.reduceSub,Nat.reduceMul,Int.reduceBEq,Int.reduceBNe,Int.reduceLT,Int.reduceLE,Int.reduceEq,reduceIte,reduceCtorEq,da,int,boolA,dr,h7,h9,h12,h88,e0,e1,y0,y1,k69,gsr',y0']
  have hp' : PoolH (hx (K.set rid (rBox (giveP p o.txid (o.at',o.len)) w')) [.box false [encN (WM p.pages.toNat w'),int p.limit]]) pid mid p bs ck:=pool_hx ⟨by rw [Heap.get_set_ne _ r1.symm]; exact hp.box,by rw [Heap.get_set_ne _ r2.symm]; exact hp.map,hp.hd,hp.free⟩ _
  have hb' : (hx (K.set rid (rBox (giveP p o.txid (o.at',o.len)) w')) [.box false [encN (WM p.pages.toNat w'),int p.limit]]).get rid = some (rBox (giveP p o.txid (o.at',o.len)) w'):=get_old (Heap.get_set_self _ lrd) _
  have hj' : (hx (K.set rid (rBox (giveP p o.txid (o.at',o.len)) w')) [.box false [encN (WM p.pages.toNat w'),int p.limit]]).get j = some (.box false (pOpC o)):=get_old (by rw [Heap.get_set_ne _ j3]; exact hj) _
  have er : rBox (giveP p o.txid (o.at',o.len)) w' = .box false [encN (WM p.pages.toNat w'),.sc (.int .i64 p.limit)]:=by unfold rBox; rw [e,e']; rfl
  rw [er] at hp' hb' hj'
  refine o64 hp' (x:=(o.at',o.len)) fun K' b' c' h' f' => ?_
  rw [← hx_nil K']
  simp only [↓vp,vz,Nat.reduceLT,Nat.reduceEqDiff,Nat.reduceLeDiff,Nat.reduceAdd,Nat.reduceSub,Nat.reduceMul,Int.reduceBEq,Int.reduceBNe,Int.reduceLT,Int.reduceLE,Int.reduceEq,reduceIte,reduceCtorEq,da,int,boolA,dr,bn]
  refine hn _ _ _ _ _ w' _ _ h' r ?_ ?_ ?_ ?_ ?_ ?_ ?_ ?_
  ·rw [f'.eq _ (by rw [hx_next,Heap.next_set]; omega) r1 r2,er]; exact hb'
  ·rw [f'.eq _ (by rw [hx_next,Heap.next_set]; omega) j1 j2]; exact hj'
  all_goals simp only [↓vp,vz,Nat.reduceLT,Nat.reduceEqDiff,Nat.reduceLeDiff,Nat.reduceAdd,Nat.reduceSub,Nat.reduceMul,Int.reduceBEq,Int.reduceBNe,Int.reduceLT,Int.reduceLE,Int.reduceEq,reduceIte,reduceCtorEq,da,int,boolA,h7,h9,h12]
 | false =>
 cases e2 : (o.kind == 2) with
 | true =>
  have t0 : 0 ≤ o.txid:=by
   unfold opBad at hbad
   rw [e2] at hbad
   simp at hbad
   exact hbad
  have s:=hr.settleD' (x:=o.txid) (o:=o.n) t0 hx2
  have r:=hr.settle o.txid o.n
  have k70:=fun K L Q => @KW_of ftB _ _ _ Q _ _ (s (hx K L))
  unfold encD at k70
  simp only [int] at k70
  simp only [↓vp,vz,Nat.reduceLT,Nat.reduceEqDiff,Nat.reduceLeDiff,Nat.reduceAdd,Nat.reduceSub,Nat.reduceMul,Int.reduceBEq,Int.reduceBNe,Int.reduceLT,Int.reduceLE,Int.reduceEq,reduceIte,reduceCtorEq,da,int,boolA,dr,h7,h9,h12,h88,e0,e1,e2,y0]
  rw [hx_nil]
  refine o65 hp fun K' b' h' f' => ?_
  rw [← hx_nil K']
  have hb' : K'.get rid = some (rBox p w):=by rw [f'.eq _ lrd r1 r2]; exact hb
  have hj' : K'.get j = some (.box false (pOpC o)):=by rw [f'.eq _ ljd j1 j2]; exact hj
  have z0:=fun L => get_old hj' L
  have z1:=fun L => get_old hb' L
  have lr':=Heap.get_lt hb'
  have gs' : ∀ (Y : Blk) L,(hx K' L).set rid Y = hx (K'.set rid Y) L:=fun Y L => hx_set_old _ L Y rid lr'
  simp only [pOpC,int] at z0
  simp only [rBox,int] at z1
  simp only [↓vp,vz,Nat.reduceLT,Nat.reduceEqDiff,Nat.reduceLeDiff,Nat.reduceAdd,Nat.reduceSub,Nat.reduceMul,Int.reduceBEq,Int.reduceBNe,Int.reduceLT,Int.reduceLE,Int.reduceEq,reduceIte,reduceCtorEq,da,int,boolA,dr,h7,h9,h12,z0,z1,k70,gs']
  refine hn _ _ _ _ _ (settleW o.txid o.n w) _ _ (⟨by rw [Heap.get_set_ne _ r1.symm]; exact h'.box,by rw [Heap.get_set_ne _ r2.symm]; exact h'.map,h'.hd,h'.free⟩) r (Heap.get_set_self _ lr') ?_ ?_ ?_ ?_ ?_ ?_ ?_
  ·rw [Heap.get_set_ne _ j3]; exact hj'
  all_goals simp only [↓vp,vz,Nat.reduceLT,Nat.reduceEqDiff,Nat.reduceLeDiff,Nat.reduceAdd,Nat.reduceSub,Nat.reduceMul,Int.reduceBEq,Int.reduceBNe,Int.reduceLT,Int.reduceLE,Int.reduceEq,reduceIte,reduceCtorEq,da,int,boolA,h7,h9,h12]
 | false =>
 cases e4 : (o.kind == 4) with
 | true =>
  obtain ⟨w',s,r,e,eh⟩:=hr.growD (n:=o.n)
  have k71:=fun K L Q => @KW_of ftB _ _ _ Q _ _ (s (hx K L))
  have k72 : ∀ L Q,KW ftB (.fn (.func 72) [] []) [.ptr pid 0 0,int o.n] (hx K L) Q ↔ Q (.tup [int (growP p o.n).2.1,int (growP p o.n).2.2]) (hx (K.set pid (boxP (growP p o.n).1 mid)) L):=fun L Q => by rw [← hx_set_old K L _ _ lid]; exact o72 (pool_hx hp L) hr.ok
  unfold encD at k71
  simp only [int] at k71 k72
  simp only [↓vp,vz,Nat.reduceLT,Nat.reduceEqDiff,Nat.reduceLeDiff,Nat.reduceAdd,Nat.reduceSub,Nat.reduceMul,Int.reduceBEq,Int.reduceBNe,Int.reduceLT,Int.reduceLE,Int.reduceEq,reduceIte,reduceCtorEq,da,int,boolA,dr,h7,h9,h12,h88,e0,e1,e2,e4,y0,y1,k71,k72,g0,g1,gsr,bn]
  rw [← hx_nil (hx _ _)]
  have z:=put2 (growP p o.n).1 w' (.box false [encN (WM (growP p o.n).1.pages.toNat w'),int p.limit]) eh r
  unfold rBox at z
  rw [e] at z
  refine hn _ _ _ _ _ w' _ _ z.1 r ?_ z.2.2 ?_ ?_ ?_ ?_ ?_ ?_
  ·unfold rBox
   rw [e]
   exact z.2.1
  all_goals simp only [↓vp,vz,Nat.reduceLT,Nat.reduceEqDiff,Nat.reduceLeDiff,Nat.reduceAdd,Nat.reduceSub,Nat.reduceMul,Int.reduceBEq,Int.reduceBNe,Int.reduceLT,Int.reduceLE,Int.reduceEq,reduceIte,reduceCtorEq,da,int,boolA,h7,h9,h12]
 | false =>
 cases e3 : (o.kind == 3) with
 | true =>
  have n1 : ∀ i,isnilA 1 (.ptr i 0 0) = some false:=fun _ => rfl
  have k73 : ∀ Q,KW ftB (.fn (.func 73) [] []) [.ptr pid 0 0] (hx K []) Q ↔ Q (.ptr K.next 0 0) (hx K [boxP p (K.next + 1),.mpb (some .i64) (p.held.map entC) bs ck,.dead]):=fun Q => by rw [hx_nil]; exact o73 hp
  simp only [↓vp,vz,Nat.reduceLT,Nat.reduceEqDiff,Nat.reduceLeDiff,Nat.reduceAdd,Nat.reduceSub,Nat.reduceMul,Int.reduceBEq,Int.reduceBNe,Int.reduceLT,Int.reduceLE,Int.reduceEq,reduceIte,reduceCtorEq,da,int,boolA,dr,h7,h9,h12,h88,e0,e1,e2,e4,e3,n1,k73]
  have h5:=pool_hx hp [boxP p (K.next + 1),.mpb (some .i64) (p.held.map entC) bs ck,.dead]
  have q5 : PoolH (hx K [boxP p (K.next + 1),.mpb (some .i64) (p.held.map entC) bs ck,.dead]) K.next (K.next + 1) p bs ck:=⟨hx_get0 _ _,hx_get _ _ 1,hp.hd,hp.free⟩
  have b5:=get_old hb [boxP p (K.next + 1),.mpb (some .i64) (p.held.map entC) bs ck,.dead]
  have j5:=get_old hj [boxP p (K.next + 1),.mpb (some .i64) (p.held.map entC) bs ck,.dead]
  generalize hx K [boxP p (K.next + 1),.mpb (some .i64) (p.held.map entC) bs ck,.dead] = K5 at *
  have lid5:=Heap.get_lt h5.box
  rw [← hx_nil K5]
  have k61 : ∀ L Q,KW ftB (.fn (.func 61) [] []) [.ptr pid 0 0,int 1] (hx K5 L) Q ↔ Q (.tup [int (takeP p 1).2.1,int (takeP p 1).2.2]) (hx (K5.set pid (boxP (takeP p 1).1 mid)) L):=fun L Q => by rw [← hx_set_old K5 L _ _ lid5]; exact o61 (pool_hx h5 L) hr.ok _
  simp only [int] at k61
  simp only [↓vp,vz,Nat.reduceLT,Nat.reduceEqDiff,Nat.reduceLeDiff,Nat.reduceAdd,Nat.reduceSub,Nat.reduceMul,Int.reduceBEq,Int.reduceBNe,Int.reduceLT,Int.reduceLE,Int.reduceEq,reduceIte,reduceCtorEq,da,int,boolA,dr,h7,k61]
  obtain ⟨⟨w6,r6⟩,_⟩:=hr.takeX 1
  have h6 : PoolH (K5.set pid (boxP (takeP p 1).1 mid)) pid mid (takeP p 1).1 bs ck:=pool_put h5 (take_held _ _) r6.rf
  rw [hx_nil]
  refine o65 h6 fun K' b' h' f' => ?_
  rw [← hx_nil K']
  have lq:=Heap.get_lt q5.box
  have lq':=Heap.get_lt q5.map
  have keep : ∀ i b,i ≠ pid → i ≠ mid → K5.get i = some b → K'.get i = some b:=fun i b i1 i2 hi => by rw [f'.eq _ (by rw [Heap.next_set]; exact Heap.get_lt hi) i1 i2,Heap.get_set_ne _ i1]; exact hi
  simp only [↓vp,vz,Nat.reduceLT,Nat.reduceEqDiff,Nat.reduceLeDiff,Nat.reduceAdd,Nat.reduceSub,Nat.reduceMul,Int.reduceBEq,Int.reduceBNe,Int.reduceLT,Int.reduceLE,Int.reduceEq,reduceIte,reduceCtorEq,da,int,boolA,dr]
  refine hn _ K' K.next (K.next + 1) p w bs ck ⟨keep _ _ (by omega) (by omega) q5.box,keep _ _ (by omega) (by omega) q5.map,q5.hd,q5.free⟩ hr (keep _ _ r1 r2 b5) (keep _ _ j1 j2 j5) ?_ ?_ ?_ ?_ ?_ ?_ <;> simp only [↓vp,vz,Nat.reduceLT,Nat.reduceEqDiff,Nat.reduceLeDiff,Nat.reduceAdd,Nat.reduceSub,Nat.reduceMul,Int.reduceBEq,Int.reduceBNe,Int.reduceLT,Int.reduceLE,Int.reduceEq,reduceIte,reduceCtorEq,da,int,boolA,h7,h9,h12]
 | false =>
  simp only [↓vp,vz,Nat.reduceLT,Nat.reduceEqDiff,Nat.reduceLeDiff,Nat.reduceAdd,Nat.reduceSub,Nat.reduceMul,Int.reduceBEq,Int.reduceBNe,Int.reduceLT,Int.reduceLE,Int.reduceEq,reduceIte,reduceCtorEq,da,int,boolA,dr,h7,h9,h12,h88,e0,e1,e2,e4,e3]
  refine hn _ _ _ _ _ w _ _ hp hr hb hj ?_ ?_ ?_ ?_ ?_ ?_ <;> simp only [↓vp,vz,Nat.reduceLT,Nat.reduceEqDiff,Nat.reduceLeDiff,Nat.reduceAdd,Nat.reduceSub,Nat.reduceMul,Int.reduceBEq,Int.reduceBNe,Int.reduceLT,Int.reduceLE,Int.reduceEq,reduceIte,reduceCtorEq,da,int,boolA,h7,h9,h12]
theorem t16 (hn : ∀ f' K',PoolH K' pid mid p bs ck → K'.get rid = some (rBox p w) → f' 7 = f 7 → f' 9 = f 9 → f' 81 = f 81 → f' 82 = f 82 → f' 83 = f 83 → Q .normal (mkE 194 f') (hx K' [])) : AW ftB c16T (mkE 194 f) (hx K []) Q:=by
 have y0:=fun L => get_old hj L
 have y1:=fun L => get_old hb L
 simp only [pOpC,int] at y0
 simp only [rBox,int] at y1
 unfold c16T M16 c16L0
 simp only [sqA,sqB]
 simp only [↓vp,vz,Nat.reduceLT,Nat.reduceEqDiff,Nat.reduceLeDiff,Nat.reduceAdd,Nat.reduceSub,Nat.reduceMul,Int.reduceBEq,Int.reduceBNe,Int.reduceLT,Int.reduceLE,Int.reduceEq,reduceIte,reduceCtorEq,da,int,boolA,dr,h7,h9,h12,y0,y1]
 refine o67 (pool_hx hp []) hr fun L => ?_
 simp only [↓vp,vz,Nat.reduceLT,Nat.reduceEqDiff,Nat.reduceLeDiff,Nat.reduceAdd,Nat.reduceSub,Nat.reduceMul,Int.reduceBEq,Int.reduceBNe,Int.reduceLT,Int.reduceLE,Int.reduceEq,reduceIte,reduceCtorEq,da,int,boolA,dr,h7,h9,h12,hx_hx]
 rw [← hx_nil (hx K _)]
 refine hn _ _ (pool_hx hp _) (get_old hb _) ?_ ?_ ?_ ?_ ?_ <;> simp only [↓vp,vz,Nat.reduceLT,Nat.reduceEqDiff,Nat.reduceLeDiff,Nat.reduceAdd,Nat.reduceSub,Nat.reduceMul,Int.reduceBEq,Int.reduceBNe,Int.reduceLT,Int.reduceLE,Int.reduceEq,reduceIte,reduceCtorEq,da,int,boolA,h7,h9,h12]
end
theorem l16 (l : List OpM) (hl : l.length ≤ 100000000000000) (hok : ∀ o ∈ l, opBad o = false ∧ o.txid ≤ 9223372036854775807) (rid : Nat) {Q : AExit → Env → Heap → Prop}
   (hex : ∀ f' K, Q (.exit 0) (mkE 194 f') (hx K [])) :
   ∀ (d i pid mid : Nat) (K : Heap) (f : Nat → AV) (p : PoolM) (w : Int → Int) (bs : List Nat) (ck : Nat), i + d = l.length → PoolH K pid mid p bs ck → PRel p w → K.get rid = some (rBox p w) →
     f 7 = .ptr pid 0 0 → f 9 = .ptr rid 0 0 → f 81 = encO l → f 82 = int l.length → f 83 = int i →
    AW ftB (.loop c16L0) (mkE 194 f) (hx K []) Q := by
  intro d
  induction d with
  | zero =>
    intro i pid mid K f p w bs ck hd hp hr hb h7 h9 h81 h82 h83
    have g1 : ((i : Int) < l.length) = False := by simp; omega
    rw [AW_loop, c16L0_eq]
    simp only [↓vp, vz, Nat.reduceLT, Nat.reduceEqDiff, Nat.reduceLeDiff, Nat.reduceAdd, Nat.reduceSub, Nat.reduceMul, Int.reduceBEq, Int.reduceBNe, Int.reduceLT, Int.reduceLE, Int.reduceEq, reduceIte, reduceCtorEq, da, int, boolA, h82, h83, g1]
    exact hex _ K
  | succ d ih =>
    intro i pid mid K f p w bs ck hd hp hr hb h7 h9 h81 h82 h83
    have g1 : ((i : Int) < l.length) = True := by simp; omega
    have gi : i < l.length := by omega
    have w1 := wrap_succ (show i < 9223372036854775807 by omega)
    have a0 := fun H => @atO H l i gi
    have b0 := fun H => @cO H l i gi
    have ho := hok _ (List.getElem_mem gi)
    generalize hO : l[i] = o at *
    simp only [pOpC, int] at b0
    rw [AW_loop, c16L0_eq]
    simp only [↓vp, vz, Nat.reduceLT, Nat.reduceEqDiff, Nat.reduceLeDiff, Nat.reduceAdd, Nat.reduceSub, Nat.reduceMul, Int.reduceBEq, Int.reduceBNe, Int.reduceLT, Int.reduceLE, Int.reduceEq, reduceIte, reduceCtorEq, da, int, boolA, dr, h81, h82, h83, g1, a0, b0]
    rw [← hx_nil (hx K _)]
    have hj : (hx K [.box false (pOpC o)]).get K.next = some (.box false (pOpC o)) := hx_get0 _ _
    refine d16 (pool_hx hp [.box false (pOpC o)]) hr hj (get_old hb _) ?_ ?_ ?_ ?_ ho.1 ho.2 fun f1 K1 pid1 mid1 p1 w1' b1 c1 h1 r1 hb1 hj1 z7 z9 z12 z81 z82 z83 => ?_
    · simp only [↓vp, vz, Nat.reduceLT, Nat.reduceEqDiff, Nat.reduceLeDiff, Nat.reduceAdd, Nat.reduceSub, Nat.reduceMul, Int.reduceBEq, Int.reduceBNe, Int.reduceLT, Int.reduceLE, Int.reduceEq, reduceIte, reduceCtorEq, da, int, boolA, h7]
    · simp only [↓vp, vz, Nat.reduceLT, Nat.reduceEqDiff, Nat.reduceLeDiff, Nat.reduceAdd, Nat.reduceSub, Nat.reduceMul, Int.reduceBEq, Int.reduceBNe, Int.reduceLT, Int.reduceLE, Int.reduceEq, reduceIte, reduceCtorEq, da, int, boolA, h9]
    · simp only [↓vp, vz, Nat.reduceLT, Nat.reduceEqDiff, Nat.reduceLeDiff, Nat.reduceAdd, Nat.reduceSub, Nat.reduceMul, Int.reduceBEq, Int.reduceBNe, Int.reduceLT, Int.reduceLE, Int.reduceEq, reduceIte, reduceCtorEq, da, int, boolA]
    · simp only [↓vp, vz, Nat.reduceLT, Nat.reduceEqDiff, Nat.reduceLeDiff, Nat.reduceAdd, Nat.reduceSub, Nat.reduceMul, Int.reduceBEq, Int.reduceBNe, Int.reduceLT, Int.reduceLE, Int.reduceEq, reduceIte, reduceCtorEq, da, int, boolA]
      try rfl
    simp only [↓vp, vz, Nat.reduceLT, Nat.reduceEqDiff, Nat.reduceLeDiff, Nat.reduceAdd, Nat.reduceSub, Nat.reduceMul, Int.reduceBEq, Int.reduceBNe, Int.reduceLT, Int.reduceLE, Int.reduceEq, reduceIte, reduceCtorEq, da, int, boolA, h9, h81, h82, h83] at z9 z12 z81 z82 z83
    simp only [↓vp, vz, Nat.reduceLT, Nat.reduceEqDiff, Nat.reduceLeDiff, Nat.reduceAdd, Nat.reduceSub, Nat.reduceMul, Int.reduceBEq, Int.reduceBNe, Int.reduceLT, Int.reduceLE, Int.reduceEq, reduceIte, reduceCtorEq, da, int, boolA]
    refine t16 h1 r1 hj1 hb1 z7 z9 z12 fun f2 K2 h2 hb2 y7 y9 y81 y82 y83 => ?_
    rw [z7] at y7
    rw [z9] at y9
    rw [z81] at y81
    rw [z82] at y82
    rw [z83] at y83
    simp only [↓vp, vz, Nat.reduceLT, Nat.reduceEqDiff, Nat.reduceLeDiff, Nat.reduceAdd, Nat.reduceSub, Nat.reduceMul, Int.reduceBEq, Int.reduceBNe, Int.reduceLT, Int.reduceLE, Int.reduceEq, reduceIte, reduceCtorEq, da, int, boolA, dr, y83, w1]
    refine ih (i + 1) pid1 mid1 K2 _ p1 w1' b1 c1 (by omega) h2 r1 hb2 ?_ ?_ ?_ ?_ ?_ <;> simp only [↓vp, vz, Nat.reduceLT, Nat.reduceEqDiff, Nat.reduceLeDiff, Nat.reduceAdd, Nat.reduceSub, Nat.reduceMul, Int.reduceBEq, Int.reduceBNe, Int.reduceLT, Int.reduceLE, Int.reduceEq, reduceIte, reduceCtorEq, da, int, boolA, y7, y9, y81, y82]
section
variable {f h : List RunM} (hf : f.length ≤ 1048576) (hh : h.length ≤ 1048576) {a b c : Int} {l : List OpM} (hl : l.length ≤ 100000000000000) (hx2 : ∀ o ∈ l,o.txid ≤ 9223372036854775807)
include hf hh hl hx2
theorem c16_body : AW ftB c16 (mkE 194 (ofL [.agg [encR f,encR h],.agg [int a,int b,int c],encO l])) (hx Heap.empty []) (RetP r16 (boolA true)):=by
 have i0 : ∀ H j,iaddrA H (some 3) 1 (.ptr j 0 0) 0 = some (.ptr j 0 0):=fun _ _ => rfl
 have i1 : ∀ H j,iaddrA H (some 3) 1 (.ptr j 0 0) 1 = some (.ptr j 0 1):=fun _ _ => rfl
 have i2 : ∀ H j,iaddrA H (some 3) 1 (.ptr j 0 0) 2 = some (.ptr j 0 2):=fun _ _ => rfl
 have k55 : ∀ K L Q,KW ftB (.fn (.func 55) [] []) [.agg [encR f,encR h],int b,encO l] (hx K L) Q ↔ Q (boolA (few11 f h b l)) (hx K L):=fun K L Q => KW_of (s55 f h b l (by omega) (by omega) (by omega) (.inl rfl) _)
 have k56:=fun K L Q => @KW_of ftB _ _ _ Q _ _ (s56 (hx K L))
 have k58:=fun K L Q => @KW_of ftB _ _ _ Q _ _ (s58 f h (by omega) (by omega) (hx K L))
 have q66:=fun K L => s66 f h (by omega) (by omega) a b c (hx K L)
 have v58 : pureV ftB (.fn (.func 58) [] []) [.agg [encR f,encR h]] = some (false,[]):=rfl
 have n1 : ∀ i,isnilA 1 (.ptr i 0 0) = some false:=fun _ => rfl
 have n2 : isnilA 1 (.sc (.pointer none)) = some true:=rfl
 have xf : ∀ q,exFQ (none : FP).isSome q = q:=fun q => by cases q <;> rfl
 have le : ∀ H,lenV H 0 (encO l) = some (.sc (.int .i64 (l.length : Nat)),H):=fun H => by simp [encO,lenV,lenOfA]
 cases g1 : few11 f h b l with
 | false =>
  rw [g1] at k55
  simp only [int,boolA] at k55 k56
  unfold c16 r16
  simp only [↓vp,vz,Nat.reduceLT,Nat.reduceEqDiff,Nat.reduceLeDiff,Nat.reduceAdd,Nat.reduceSub,Nat.reduceMul,Int.reduceBEq,Int.reduceBNe,Int.reduceLT,Int.reduceLE,Int.reduceEq,reduceIte,reduceCtorEq,da,int,boolA,rt,dr,i0,i1,i2,k55,k56]
 | true =>
  rw [g1] at k55
  have s:=fun K L => @s57 (hx K L) f h a b c (by omega) (by omega)
  cases ok : okNew f h a b c with
  | false =>
   simp only [ok] at s q66
   have k57:=fun K L Q => @KW_of ftB _ _ _ Q _ _ (s K L)
   have k66:=fun K L Q => @KW_of ftB _ _ _ Q _ _ (q66 K L)
   unfold encD at k66
   simp only [int,boolA] at k55 k56 k57 k66
   unfold c16 r16
   simp only [↓vp,vz,Nat.reduceLT,Nat.reduceEqDiff,Nat.reduceLeDiff,Nat.reduceAdd,Nat.reduceSub,Nat.reduceMul,Int.reduceBEq,Int.reduceBNe,Int.reduceLT,Int.reduceLE,Int.reduceEq,reduceIte,reduceCtorEq,da,int,boolA,rt,dr,i0,i1,i2,k55,k56,k57,k58,v58,n1,n2,xf,le,k66,hx_hx]
  | true =>
   simp only [ok] at s q66
   have k57:=fun K L Q => @KW_of ftB _ _ _ Q _ _ (s K L)
   have k66:=fun K L Q => @KW_of ftB _ _ _ Q _ _ (q66 K L)
   unfold encD at k66
   simp only [int,boolA] at k55 k56 k57 k66
   unfold c16 r16
   simp only [↓vp,vz,Nat.reduceLT,Nat.reduceEqDiff,Nat.reduceLeDiff,Nat.reduceAdd,Nat.reduceSub,Nat.reduceMul,Int.reduceBEq,Int.reduceBNe,Int.reduceLT,Int.reduceLE,Int.reduceEq,reduceIte,reduceCtorEq,da,int,boolA,rt,dr,i0,i1,i2,k55,k56,k57,k58,v58,n1,n2,xf]
   have hn:=PRel.new ok
   have y0 : ∀ x y z,(hx (hx Heap.empty [.box false [encR f,encR h],.box false [.sc (.int .i64 a),.sc (.int .i64 b),.sc (.int .i64 c)]]) [x,y,z]).get 0 = some (.box false [encR f,encR h]):=fun _ _ _ => rfl
   have y1 : ∀ x y z,(hx (hx Heap.empty [.box false [encR f,encR h],.box false [.sc (.int .i64 a),.sc (.int .i64 b),.sc (.int .i64 c)]]) [x,y,z]).get 1 = some (.box false [.sc (.int .i64 a),.sc (.int .i64 b),.sc (.int .i64 c)]):=fun _ _ _ => rfl
   have y0:=y0 (.box false [encR f,encR h]) (.mpb (some .i64) [entC (a,h)] [0] 1) (boxP (newP f h a b c) 3)
   have y1:=y1 (.box false [encR f,encR h]) (.mpb (some .i64) [entC (a,h)] [0] 1) (boxP (newP f h a b c) 3)
   have hp0 : PoolH (hx (hx Heap.empty [.box false [encR f,encR h],.box false [.sc (.int .i64 a),.sc (.int .i64 b),.sc (.int .i64 c)]]) [.box false [encR f,encR h],.mpb (some .i64) [entC (a,h)] [0] 1,boxP (newP f h a b c) 3]) 4 3 (newP f h a b c) [0] 1:=⟨rfl,rfl,hn.2,hn.1.rf⟩
   generalize hx (hx Heap.empty [.box false [encR f,encR h],.box false [.sc (.int .i64 a),.sc (.int .i64 b),.sc (.int .i64 c)]]) [.box false [encR f,encR h],.mpb (some .i64) [entC (a,h)] [0] 1,boxP (newP f h a b c) 3] = K0 at *
   rw [← hx_nil K0]
   have z0:=fun L => get_old y0 L
   have z1:=fun L => get_old y1 L
   simp only [↓vp,vz,Nat.reduceLT,Nat.reduceEqDiff,Nat.reduceLeDiff,Nat.reduceAdd,Nat.reduceSub,Nat.reduceMul,Int.reduceBEq,Int.reduceBNe,Int.reduceLT,Int.reduceLE,Int.reduceEq,reduceIte,reduceCtorEq,da,int,boolA,rt,dr,i0,i1,i2,z0,z1,k66,n1]
   refine o67 (pool_hx hp0 _) hn.1 fun L => ?_
   simp only [↓vp,vz,Nat.reduceLT,Nat.reduceEqDiff,Nat.reduceLeDiff,Nat.reduceAdd,Nat.reduceSub,Nat.reduceMul,Int.reduceBEq,Int.reduceBNe,Int.reduceLT,Int.reduceLE,Int.reduceEq,reduceIte,reduceCtorEq,da,int,boolA,rt,dr,le,hx_hx]
   rw [← hx_nil (hx K0 _)]
   have hbd : ∀ o ∈ l,opBad o = false:=fun o ho => by
    unfold few11 at g1
    rw [Bool.and_eq_true,Bool.and_eq_true,Bool.and_eq_true,List.all_eq_true] at g1
    simpa using g1.1.1.1 o ho
   refine l16 l hl (fun o ho => ⟨hbd o ho,hx2 o ho⟩) K0.next (fun f' K => ?_) l.length 0 4 3 _ _ (newP f h a b c) (newW f h a) [0] 1 (by simp) (pool_hx hp0 _) hn.1 (hx_get0 _ _) ?_ ?_ ?_ ?_ ?_
   rotate_left
   ·simp only [↓vp,vz,Nat.reduceLT,Nat.reduceEqDiff,Nat.reduceLeDiff,Nat.reduceAdd,Nat.reduceSub,Nat.reduceMul,Int.reduceBEq,Int.reduceBNe,Int.reduceLT,Int.reduceLE,Int.reduceEq,reduceIte,reduceCtorEq,da,int,boolA]
   ·simp only [↓vp,vz,Nat.reduceLT,Nat.reduceEqDiff,Nat.reduceLeDiff,Nat.reduceAdd,Nat.reduceSub,Nat.reduceMul,Int.reduceBEq,Int.reduceBNe,Int.reduceLT,Int.reduceLE,Int.reduceEq,reduceIte,reduceCtorEq,da,int,boolA]
   ·simp only [↓vp,vz,Nat.reduceLT,Nat.reduceEqDiff,Nat.reduceLeDiff,Nat.reduceAdd,Nat.reduceSub,Nat.reduceMul,Int.reduceBEq,Int.reduceBNe,Int.reduceLT,Int.reduceLE,Int.reduceEq,reduceIte,reduceCtorEq,da,int,boolA]
   ·simp only [↓vp,vz,Nat.reduceLT,Nat.reduceEqDiff,Nat.reduceLeDiff,Nat.reduceAdd,Nat.reduceSub,Nat.reduceMul,Int.reduceBEq,Int.reduceBNe,Int.reduceLT,Int.reduceLE,Int.reduceEq,reduceIte,reduceCtorEq,da,int,boolA,encO,List.length_map]
    try rfl
   ·simp only [↓vp,vz,Nat.reduceLT,Nat.reduceEqDiff,Nat.reduceLeDiff,Nat.reduceAdd,Nat.reduceSub,Nat.reduceMul,Int.reduceBEq,Int.reduceBNe,Int.reduceLT,Int.reduceLE,Int.reduceEq,reduceIte,reduceCtorEq,da,int,boolA]
    try rfl
   unfold c16R1
   simp only [↓vp,vz,Nat.reduceLT,Nat.reduceEqDiff,Nat.reduceLeDiff,Nat.reduceAdd,Nat.reduceSub,Nat.reduceMul,Int.reduceBEq,Int.reduceBNe,Int.reduceLT,Int.reduceLE,Int.reduceEq,reduceIte,reduceCtorEq,da,int,boolA,rt,dr,k56]
theorem s16 (H : Heap) : callL ftB16 (.fn (.func 16) [] []) [.agg [encR f,encR h],.agg [int a,int b,int c],encO l] H = some (boolA true,H) :=
 call_p (as':=[.agg [encR f,encR h],.agg [int a,int b,int c],encO l]) rfl rfl (by simp) (AW_sub ftB16_sub (c16_body hf hh hl hx2))
end
end Go.VI
namespace Go.VI
theorem fc16 : compF Go.Proofs.Try.prog 16 = some (194,r16,c16):=by kernel_rfl
theorem fn16 : (Go.Proofs.Try.prog.funcs[16]?).all (fun fn => !(fn.name == "runtime.NumGoroutine")) = true:=by kernel_rfl
theorem ftB16_ok : FTOk Go.Proofs.Try.prog ftB16:=by
 intro k d h
 unfold ftB16 at h
 split at h
 ·cases h; exact go_ok fc16 fn16
 ·exact ftB_ok _ _ h
end Go.VI
