import Derived.Test.YtoinghjainpkfaaGreatS2
import Derived.Maps.RangeRun
import Derived.Lib.Overlaps
import Derived.Sort.AssemblyPlain
import Derived.Lib.BitFns
/- What the claim hangs on, part 3: VW VX VY VYA VXA VXB VXC VXD VXE VXG VXH VXJ VXK VXL VXM VXN VXO VXP. -/
set_option linter.unusedVariables false
set_option linter.unusedSimpArgs false
namespace Go.VI
def CLe (cf cf' : CF) : Prop:=∀ f args H r,cf f args H = some r → cf' f args H = some r
theorem opC_mono {cf cf' : CF} (h : CLe cf cf') {nid : Nat} {e : Env} {H : Heap} {o : AOp} {r : AV × Heap} (hr : opC cf nid e H o = some r) : opC cf' nid e H o = some r:=by
 unfold opC at hr ⊢
 split at hr
 ·exact h _ _ _ _ hr
 ·exact hr
theorem oper_mono {cf cf' : CF} (h : CLe cf cf') {nid : Nat} {e : Env} {H : Heap} {o : AOper} {r : Env × Heap} (hr : oper cf nid o e H = some r) : oper cf' nid o e H = some r:=by
 unfold oper at hr ⊢
 split at hr
 ·split at hr
  ·simp only [Option.map_eq_some_iff] at hr
   obtain ⟨p,hp,rfl⟩:=hr
   rw [if_pos ‹_›,if_pos ‹_›,opC_mono h hp]
   rfl
  ·rw [if_pos ‹_›,if_neg ‹_›]
   exact hr
 ·cases hr
theorem opers_mono {cf cf' : CF} (h : CLe cf cf') : ∀ (os : List AOper) (e : Env) (H : Heap) (r : Env × Heap),opers cf os e H = some r → opers cf' os e H = some r
 | [],e,H,r,hr => hr
 | o :: os,e,H,r,hr => by
  simp only [opers,Option.bind_eq_some_iff] at hr ⊢
  obtain ⟨p,hp,hr⟩:=hr
  exact ⟨p,oper_mono h hp,opers_mono h os _ _ _ hr⟩
theorem runs_mono {cf cf' : CF} (h : CLe cf cf') {pv : AV → List AV → FP} : ∀ (os : List AOper) (nid : Nat) (e : Env) (H : Heap) (r : List FQ × Env × Heap),runs cf pv nid os e H = some r → runs cf' pv nid os e H = some r
 | [],nid,e,H,r,hr => hr
 | o :: os,nid,e,H,r,hr => by
  simp only [runs,Option.bind_eq_some_iff,Option.map_eq_some_iff] at hr ⊢
  obtain ⟨p,hp,q,hq,rfl⟩:=hr
  exact ⟨p,oper_mono h hp,q,runs_mono h os _ _ _ _ hq,rfl⟩
theorem drawn_mono {cf cf' : CF} (h : CLe cf cf') {pv : AV → List AV → FP} {os : List AOper} {prs : List (Nat × Nat)} {e : Env} {H : Heap} {r : Env × Heap} (hr : drawn cf pv os prs e H = some r) : drawn cf' pv os prs e H = some r:=by
 simp only [drawn,Option.bind_eq_some_iff] at hr ⊢
 obtain ⟨p,hp,hr⟩:=hr
 exact ⟨p,runs_mono h _ _ _ _ _ hp,hr⟩
def ELe (ex ex' : EX) : Prop:=∀ c e H r,ex c e H = some r → ex' c e H = some r
theorem callF_mono {ft : FT} {ex ex' : EX} (h : ELe ex ex') {k : FuncId} {args : List AV} {H : Heap} {r : AV × Heap} (hr : callF ft ex k args H = some r) : callF ft ex' k args H = some r:=by
 unfold callF at hr ⊢
 split at hr
 ·cases hr
 ·exact hr
 ·exact hr
 ·cases hr
 ·exact hr
 ·simp only [Option.bind_eq_some_iff] at hr ⊢
  obtain ⟨p,hp,q,hq,hr⟩:=hr
  exact ⟨p,hp,q,h _ _ _ _ hq,hr⟩
 ·simp only [Option.bind_eq_some_iff] at hr ⊢
  obtain ⟨q,hq,hr⟩:=hr
  exact ⟨q,h _ _ _ _ hq,hr⟩
theorem roundA_mono {ex ex' : EX} (h : ELe ex ex') {id : Nat} {args : List AV} {H : Heap} {r : AV × Heap} (hr : roundA ex id args H = some r) : roundA ex' id args H = some r:=by
 unfold roundA at hr ⊢
 split at hr
 rotate_left
 ·cases hr
 rename_i hg
 simp only [hg]
 split at hr
 rotate_left
 ·cases hr
 rename_i hl
 simp only [if_pos hl]
 simp only [Option.bind_eq_some_iff] at hr ⊢
 obtain ⟨p,hp,hr⟩:=hr
 refine ⟨p,h _ _ _ _ hp,?_⟩
 split at hr
 rotate_left
 ·cases hr
 rename_i hx
 rw [if_pos hx]
 simp only [Option.bind_eq_some_iff] at hr ⊢
 obtain ⟨q,hq,t,ht,hr⟩:=hr
 exact ⟨q,hq,t,h _ _ _ _ ht,hr⟩
theorem callV_mono {ft : FT} {ex ex' : EX} (h : ELe ex ex') : CLe (callV ft ex) (callV ft ex'):=by
 intro f args H r hr
 unfold callV at hr ⊢
 split at hr
 ·exact callF_mono h hr
 ·exact roundA_mono h hr
 ·cases hr
theorem exec_mono1 (ft : FT) : ∀ n,ELe (exec ft n) (exec ft (n + 1)):=by
 intro n
 induction n with
 | zero => intro c e H r h; simp [exec] at h
 | succ n ih =>
  intro c e H r h
  rw [exec.eq_def] at h ⊢
  simp only at h ⊢
  cases c with
  | skip => exact h
  | exit id => exact h
  | ret => exact h
  | stop => exact h
  | rangeF f ps asg body =>
   simp only at h ⊢
   split at h
   rotate_left
   ·cases h
   rename_i hg
   rw [if_pos hg]
   simp only [Option.bind_eq_some_iff] at h ⊢
   obtain ⟨p,hp,hr⟩:=h
   exact ⟨p,callV_mono ih _ _ _ _ hp,hr⟩
  | region os draw prs =>
   simp only at h ⊢
   split at h
   ·rename_i hd
    rw [if_pos hd]
    simp only [Option.map_eq_some_iff] at h ⊢
    obtain ⟨p,hp,hr⟩:=h
    exact ⟨p,drawn_mono (callV_mono ih) hp,hr⟩
   ·rename_i hd
    rw [if_neg hd]
    simp only [Option.map_eq_some_iff] at h ⊢
    obtain ⟨p,hp,hr⟩:=h
    exact ⟨p,opers_mono (callV_mono ih) _ _ _ _ hp,hr⟩
  | seq a b =>
   simp only [Option.bind_eq_some_iff] at h ⊢
   obtain ⟨⟨x,e1,H1⟩,hp,hr⟩:=h
   refine ⟨(x,e1,H1),ih _ _ _ _ hp,?_⟩
   cases x with
   | normal => exact ih _ _ _ _ hr
   | exit id => exact hr
   | ret => exact hr
  | cond o a b =>
   simp only [Option.bind_eq_some_iff] at h ⊢
   obtain ⟨t,ht,hr⟩:=h
   refine ⟨t,ht,?_⟩
   cases t with
   | true => exact ih _ _ _ _ hr
   | false => exact ih _ _ _ _ hr
  | block id c =>
   simp only [Option.map_eq_some_iff] at h ⊢
   obtain ⟨p,hp,hr⟩:=h
   exact ⟨p,ih _ _ _ _ hp,hr⟩
  | loop c =>
   simp only [Option.bind_eq_some_iff] at h ⊢
   obtain ⟨⟨x,e1,H1⟩,hp,hr⟩:=h
   refine ⟨(x,e1,H1),ih _ _ _ _ hp,?_⟩
   cases x with
   | normal => exact ih _ _ _ _ hr
   | exit id => exact hr
   | ret => exact hr
theorem exec_mono (ft : FT) {n m : Nat} (h : n ≤ m) : ELe (exec ft n) (exec ft m):=by
 induction h with
 | refl => exact fun _ _ _ _ h => h
 | step _ ih => exact fun c e H r h => exec_mono1 ft _ _ _ _ _ (ih _ _ _ _ h)
open Classical in
noncomputable def lim {α : Type} (f : Nat → Option α) : Option α:=if h : ∃ r,∃ n,f n = some r then some (Classical.choose h) else none
theorem lim_eq {α : Type} {f : Nat → Option α} (hm : ∀ n m r,n ≤ m → f n = some r → f m = some r) (r : α) : lim f = some r ↔ ∃ n,f n = some r:=by
 unfold lim
 constructor
 ·intro h
  split at h
  ·rename_i hx
   cases h
   exact Classical.choose_spec hx
  ·cases h
 ·rintro ⟨n,hn⟩
  have hx : ∃ r,∃ n,f n = some r:=⟨r,n,hn⟩
  rw [dif_pos hx]
  obtain ⟨m,hm'⟩:=Classical.choose_spec hx
  have h1:=hm n (max n m) r (Nat.le_max_left _ _) hn
  have h2:=hm m (max n m) _ (Nat.le_max_right _ _) hm'
  rw [h1] at h2
  exact h2.symm
theorem opt_ext {α : Type} {a b : Option α} (h : ∀ r,a = some r ↔ b = some r) : a = b:=by
 cases a with
 | none =>
  cases b with
  | none => rfl
  | some b => exact absurd ((h b).2 rfl) (by simp)
 | some a => exact ((h a).1 rfl).symm
noncomputable def execL (ft : FT) : EX:=fun c e H => lim fun n => exec ft n c e H
noncomputable def callL (ft : FT) : CF:=callV ft (execL ft)
theorem execL_some {ft : FT} {c : ACode} {e : Env} {H : Heap} {r : AExit × Env × Heap} : execL ft c e H = some r ↔ ∃ n,exec ft n c e H = some r :=
 lim_eq (fun n m r h => exec_mono ft h c e H r) r
theorem exec_L (ft : FT) (n : Nat) : ELe (exec ft n) (execL ft):=fun c e H r h => execL_some.2 ⟨n,h⟩
theorem callF_L {ft : FT} {k : FuncId} {args : List AV} {H : Heap} {r : AV × Heap} (h : callF ft (execL ft) k args H = some r) : ∃ n,callF ft (exec ft n) k args H = some r:=by
 unfold callF at h ⊢
 split at h
 ·cases h
 ·exact ⟨0,h⟩
 ·exact ⟨0,h⟩
 ·cases h
 ·exact ⟨0,h⟩
 ·simp only [Option.bind_eq_some_iff] at h ⊢
  obtain ⟨p,hp,q,hq,hr⟩:=h
  obtain ⟨n,hn⟩:=execL_some.1 hq
  exact ⟨n,p,hp,q,hn,hr⟩
 ·simp only [Option.bind_eq_some_iff] at h ⊢
  obtain ⟨q,hq,hr⟩:=h
  obtain ⟨n,hn⟩:=execL_some.1 hq
  exact ⟨n,q,hn,hr⟩
theorem roundA_L {ft : FT} {id : Nat} {args : List AV} {H : Heap} {r : AV × Heap} (hr : roundA (execL ft) id args H = some r) : ∃ n,roundA (exec ft n) id args H = some r:=by
 unfold roundA at hr ⊢
 split at hr
 rotate_left
 ·cases hr
 rename_i hg
 simp only [hg]
 split at hr
 rotate_left
 ·cases hr
 rename_i hl
 simp only [if_pos hl]
 simp only [Option.bind_eq_some_iff] at hr ⊢
 obtain ⟨p,hp,hr⟩:=hr
 obtain ⟨n,hn⟩:=execL_some.1 hp
 split at hr
 rotate_left
 ·cases hr
 rename_i hx
 simp only [Option.bind_eq_some_iff] at hr
 obtain ⟨q,hq,t,ht,hr⟩:=hr
 obtain ⟨n2,hn2⟩:=execL_some.1 ht
 refine ⟨max n n2,p,exec_mono ft (Nat.le_max_left _ _) _ _ _ _ hn,?_⟩
 rw [if_pos hx]
 simp only [Option.bind_eq_some_iff]
 exact ⟨q,hq,t,exec_mono ft (Nat.le_max_right _ _) _ _ _ _ hn2,hr⟩
theorem callL_some {ft : FT} {f : AV} {args : List AV} {H : Heap} {r : AV × Heap} : callL ft f args H = some r ↔ ∃ n,callV ft (exec ft n) f args H = some r:=by
 constructor
 ·intro h
  unfold callL callV at h
  unfold callV
  split at h
  ·exact callF_L h
  ·exact roundA_L h
  ·cases h
 ·rintro ⟨n,h⟩
  exact callV_mono (exec_L ft n) _ _ _ _ h
section
variable {ft : FT}
theorem oper_L {nid : Nat} {o : AOper} {e : Env} {H : Heap} {r : Env × Heap} (h : oper (callL ft) nid o e H = some r) : ∃ n,oper (callV ft (exec ft n)) nid o e H = some r:=by
 unfold oper at h ⊢
 split at h
 rotate_left
 ·cases h
 rename_i hk
 simp only [if_pos hk]
 split at h
 ·rename_i hw
  simp only [if_pos hw]
  simp only [Option.map_eq_some_iff] at h ⊢
  obtain ⟨p,hp,hr⟩:=h
  unfold opC at hp ⊢
  split at hp
  ·obtain ⟨n,hn⟩:=callL_some.1 hp
   exact ⟨n,p,hn,hr⟩
  ·exact ⟨0,p,hp,hr⟩
 ·rename_i hw
  simp only [if_neg hw]
  exact ⟨0,h⟩
theorem opers_L : ∀ (os : List AOper) (e : Env) (H : Heap) (r : Env × Heap),opers (callL ft) os e H = some r → ∃ n,opers (callV ft (exec ft n)) os e H = some r
 | [],e,H,r,h => ⟨0,h⟩
 | o :: os,e,H,r,h => by
  simp only [opers,Option.bind_eq_some_iff] at h ⊢
  obtain ⟨p,hp,h⟩:=h
  obtain ⟨n,hn⟩:=oper_L hp
  obtain ⟨m,hm⟩:=opers_L os _ _ _ h
  exact ⟨max n m,p,oper_mono (callV_mono (exec_mono ft (Nat.le_max_left _ _))) hn,opers_mono (callV_mono (exec_mono ft (Nat.le_max_right _ _))) _ _ _ _ hm⟩
theorem runs_L {pv : AV → List AV → FP} : ∀ (os : List AOper) (nid : Nat) (e : Env) (H : Heap) (r : List FQ × Env × Heap),runs (callL ft) pv nid os e H = some r → ∃ n,runs (callV ft (exec ft n)) pv nid os e H = some r
 | [],nid,e,H,r,h => ⟨0,h⟩
 | o :: os,nid,e,H,r,h => by
  simp only [runs,Option.bind_eq_some_iff,Option.map_eq_some_iff] at h ⊢
  obtain ⟨p,hp,q,hq,rfl⟩:=h
  obtain ⟨n,hn⟩:=oper_L hp
  obtain ⟨m,hm⟩:=runs_L os _ _ _ _ hq
  exact ⟨max n m,p,oper_mono (callV_mono (exec_mono ft (Nat.le_max_left _ _))) hn,q,runs_mono (callV_mono (exec_mono ft (Nat.le_max_right _ _))) _ _ _ _ _ hm,rfl⟩
theorem exec_at {n : Nat} {c : ACode} {e : Env} {H : Heap} {r : AExit × Env × Heap} (h : exec ft n c e H = some r) : exec ft (n + 1) c e H = some r:=exec_mono1 ft n _ _ _ _ h
theorem execL_skip (e : Env) (H : Heap) : execL ft .skip e H = some (.normal,e,H):=execL_some.2 ⟨1,rfl⟩
theorem execL_exit (id : Nat) (e : Env) (H : Heap) : execL ft (.exit id) e H = some (.exit id,e,H):=execL_some.2 ⟨1,rfl⟩
theorem execL_ret (e : Env) (H : Heap) : execL ft .ret e H = some (.ret,e,H):=execL_some.2 ⟨1,rfl⟩
theorem execL_region (os : List AOper) (e : Env) (H : Heap) : execL ft (.region os false []) e H = (opers (callL ft) os e H).map fun (e,H) => (.normal,e,H):=by
 refine opt_ext fun r => ?_
 rw [execL_some]
 constructor
 ·rintro ⟨n,h⟩
  have h:=exec_at h
  simp only [exec,Bool.false_eq_true,if_false,Option.map_eq_some_iff] at h ⊢
  obtain ⟨p,hp,hr⟩:=h
  exact ⟨p,opers_mono (callV_mono (exec_L ft n)) _ _ _ _ hp,hr⟩
 ·intro h
  simp only [Option.map_eq_some_iff] at h
  obtain ⟨p,hp,hr⟩:=h
  obtain ⟨n,hn⟩:=opers_L _ _ _ _ hp
  exact ⟨n + 1,by simp only [exec,Bool.false_eq_true,if_false,hn,Option.map_some]; exact congrArg some hr⟩
theorem execL_drawn (os : List AOper) (prs : List (Nat × Nat)) (e : Env) (H : Heap) : execL ft (.region os true prs) e H = (drawn (callL ft) (pureV ft) os prs e H).map fun (e,H) => (.normal,e,H):=by
 refine opt_ext fun r => ?_
 rw [execL_some]
 constructor
 ·rintro ⟨n,h⟩
  have h:=exec_at h
  simp only [exec,if_true,Option.map_eq_some_iff] at h ⊢
  obtain ⟨p,hp,hr⟩:=h
  exact ⟨p,drawn_mono (callV_mono (exec_L ft n)) hp,hr⟩
 ·intro h
  simp only [Option.map_eq_some_iff] at h
  obtain ⟨p,hp,hr⟩:=h
  simp only [drawn,Option.bind_eq_some_iff] at hp
  obtain ⟨q,hq,hp⟩:=hp
  obtain ⟨n,hn⟩:=runs_L _ _ _ _ _ hq
  refine ⟨n + 1,?_⟩
  simp only [exec,if_true,drawn,hn,Option.bind_some]
  rw [hp]
  exact congrArg some hr
theorem execL_seq (a b : ACode) (e : Env) (H : Heap) : execL ft (.seq a b) e H = (execL ft a e H).bind fun (x,e,H) => match x with
  | .normal => execL ft b e H
  | x => some (x,e,H):=by
 refine opt_ext fun r => ?_
 rw [execL_some]
 constructor
 ·rintro ⟨n,h⟩
  have h:=exec_at h
  simp only [exec,Option.bind_eq_some_iff] at h ⊢
  obtain ⟨⟨x,e1,H1⟩,hp,hr⟩:=h
  refine ⟨(x,e1,H1),exec_L ft n _ _ _ _ hp,?_⟩
  cases x with
  | normal => exact exec_L ft n _ _ _ _ hr
  | exit id => exact hr
  | ret => exact hr
 ·intro h
  simp only [Option.bind_eq_some_iff] at h
  obtain ⟨⟨x,e1,H1⟩,hp,hr⟩:=h
  obtain ⟨n,hn⟩:=execL_some.1 hp
  cases x with
  | normal =>
   obtain ⟨m,hm⟩:=execL_some.1 hr
   refine ⟨max n m + 1,?_⟩
   simp only [exec,exec_mono ft (Nat.le_max_left n m) _ _ _ _ hn,Option.bind_some]
   exact exec_mono ft (Nat.le_max_right n m) _ _ _ _ hm
  | exit id => exact ⟨n + 1,by simp only [exec,hn,Option.bind_some]; exact hr⟩
  | ret => exact ⟨n + 1,by simp only [exec,hn,Option.bind_some]; exact hr⟩
theorem execL_cond (c : Operand) (a b : ACode) (e : Env) (H : Heap) : execL ft (.cond c a b) e H = (toB (ev e c)).bind fun t => if t then execL ft a e H else execL ft b e H:=by
 refine opt_ext fun r => ?_
 rw [execL_some]
 constructor
 ·rintro ⟨n,h⟩
  have h:=exec_at h
  simp only [exec,Option.bind_eq_some_iff] at h ⊢
  obtain ⟨t,ht,hr⟩:=h
  refine ⟨t,ht,?_⟩
  cases t with
  | true => exact exec_L ft n _ _ _ _ hr
  | false => exact exec_L ft n _ _ _ _ hr
 ·intro h
  simp only [Option.bind_eq_some_iff] at h
  obtain ⟨t,ht,hr⟩:=h
  cases t with
  | true =>
   obtain ⟨m,hm⟩:=execL_some.1 hr
   exact ⟨m + 1,by simp only [exec,ht,Option.bind_some]; exact hm⟩
  | false =>
   obtain ⟨m,hm⟩:=execL_some.1 hr
   exact ⟨m + 1,by simp only [exec,ht,Option.bind_some]; exact hm⟩
theorem execL_block (id : Nat) (c : ACode) (e : Env) (H : Heap) : execL ft (.block id c) e H = (execL ft c e H).map fun (x,e,H) => (if x = .exit id then .normal else x,e,H):=by
 refine opt_ext fun r => ?_
 rw [execL_some]
 constructor
 ·rintro ⟨n,h⟩
  have h:=exec_at h
  simp only [exec,Option.map_eq_some_iff] at h ⊢
  obtain ⟨p,hp,hr⟩:=h
  exact ⟨p,exec_L ft n _ _ _ _ hp,hr⟩
 ·intro h
  simp only [Option.map_eq_some_iff] at h
  obtain ⟨p,hp,hr⟩:=h
  obtain ⟨n,hn⟩:=execL_some.1 hp
  exact ⟨n + 1,by simp only [exec,hn,Option.map_some]; exact congrArg some hr⟩
theorem execL_loop (c : ACode) (e : Env) (H : Heap) : execL ft (.loop c) e H = (execL ft c e H).bind fun (x,e,H) => match x with
  | .normal => execL ft (.loop c) e H
  | x => some (x,e,H):=by
 refine opt_ext fun r => ?_
 rw [execL_some]
 constructor
 ·rintro ⟨n,h⟩
  have h:=exec_at h
  simp only [exec,Option.bind_eq_some_iff] at h ⊢
  obtain ⟨⟨x,e1,H1⟩,hp,hr⟩:=h
  refine ⟨(x,e1,H1),exec_L ft n _ _ _ _ hp,?_⟩
  cases x with
  | normal => exact exec_L ft n _ _ _ _ hr
  | exit id => exact hr
  | ret => exact hr
 ·intro h
  simp only [Option.bind_eq_some_iff] at h
  obtain ⟨⟨x,e1,H1⟩,hp,hr⟩:=h
  obtain ⟨n,hn⟩:=execL_some.1 hp
  cases x with
  | normal =>
   obtain ⟨m,hm⟩:=execL_some.1 hr
   refine ⟨max n m + 1,?_⟩
   simp only [exec,exec_mono ft (Nat.le_max_left n m) _ _ _ _ hn,Option.bind_some]
   exact exec_mono ft (Nat.le_max_right n m) _ _ _ _ hm
  | exit id => exact ⟨n + 1,by simp only [exec,hn,Option.bind_some]; exact hr⟩
  | ret => exact ⟨n + 1,by simp only [exec,hn,Option.bind_some]; exact hr⟩
theorem execL_rangeF (f : Operand) (ps : List Nat) (asg body : ACode) (e : Env) (H : Heap) : execL ft (.rangeF f ps asg body) e H =
  if isGo ft (ev e f) then (callL ft (ev e f) [.yld H.next] (H.push (.loop .ready e ps asg body none))).bind fun (_,H1) => rangeE H.next e H1 else none:=by
 refine opt_ext fun r => ?_
 rw [execL_some]
 constructor
 ·rintro ⟨n,h⟩
  have h:=exec_at h
  simp only [exec] at h
  split at h
  rotate_left
  ·cases h
  rename_i hg
  rw [if_pos hg]
  simp only [Option.bind_eq_some_iff] at h ⊢
  obtain ⟨p,hp,hr⟩:=h
  exact ⟨p,callL_some.2 ⟨n,hp⟩,hr⟩
 ·intro h
  split at h
  rotate_left
  ·cases h
  rename_i hg
  simp only [Option.bind_eq_some_iff] at h
  obtain ⟨p,hp,hr⟩:=h
  obtain ⟨n,hn⟩:=callL_some.1 hp
  refine ⟨n + 1,?_⟩
  simp only [exec,if_pos hg,hn,Option.bind_some]
  exact hr
end
end Go.VI
namespace Go.VI
def mkE (n : Nat) (f : Nat → AV) : Env:=(List.range n).map f
def upd (f : Nat → AV) (t : Nat) (v : AV) : Nat → AV:=fun s => if s = t then v else f s
def ofL (l : List AV) : Nat → AV:=fun t => l.getD t .bad
theorem mkE_get (n : Nat) (f : Nat → AV) (t : Nat) : (mkE n f).getD t .bad = if t < n then f t else .bad:=by
 unfold mkE
 rw [List.getD_eq_getElem?_getD,List.getElem?_map]
 by_cases h : t < n
 ·simp [h]
 ·simp [h]
theorem ev_tmp (n : Nat) (f : Nat → AV) (t : Nat) : ev (mkE n f) (.tmp t) = if t < n then f t else .bad:=mkE_get n f t
theorem ev_const (e : Env) (v : Value) : ev e (.const v) = ofC v:=rfl
theorem ev_func (e : Env) (k : FuncId) : ev e (.func k) = .fn (.func k) [] []:=rfl
theorem putA_mkE (n : Nat) (f : Nat → AV) (t : Nat) (v : AV) : putA (mkE n f) (some t) v = mkE n (upd f t v):=by
 apply List.ext_getElem?
 intro i
 simp only [putA,mkE,upd]
 by_cases hi : i < n
 ·by_cases h : i = t
  ·subst h
   rw [List.getElem?_set_self (by simpa using hi)]
   simp [hi,upd]
  ·rw [List.getElem?_set_ne (Ne.symm h)]
   simp [hi,h,upd]
 ·rw [List.getElem?_eq_none (by simp; omega),List.getElem?_eq_none (by simp; omega)]
theorem putA_none (e : Env) (v : AV) : putA e none v = e:=rfl
theorem enterE_mkE (n : Nat) (args : List AV) (h : args.length ≤ n) : enterE n args = mkE n (ofL args):=by
 apply List.ext_getElem?
 intro i
 simp only [enterE,mkE,ofL]
 rcases Nat.lt_or_ge i args.length with h1 | h1
 ·rw [List.getElem?_append_left h1]
  have : i < n:=by omega
  simp [this,h1,ofL]
 ·rw [List.getElem?_append_right h1,List.getElem?_replicate]
  by_cases hn : i < n
  ·rw [if_pos (by omega)]
   simp [hn,List.getElem?_eq_none h1,ofL]
  ·rw [if_neg (by omega),List.getElem?_eq_none (by simp; omega)]
theorem upd_at (f : Nat → AV) (t : Nat) (v : AV) (s : Nat) : upd f t v s = if s = t then v else f s:=rfl
def AW (ft : FT) (c : ACode) (e : Env) (H : Heap) (Q : AExit → Env → Heap → Prop) : Prop:=∃ x e' H',execL ft c e H = some (x,e',H') ∧ Q x e' H'
def OW (ft : FT) (os : List AOper) (e : Env) (H : Heap) (Q : Env → Heap → Prop) : Prop:=∃ e' H',opers (callL ft) os e H = some (e',H') ∧ Q e' H'
def DW (ft : FT) (nid : Nat) (os : List AOper) (fs : List FQ) (e : Env) (H : Heap) (Q : List FQ → Env → Heap → Prop) : Prop:=∃ gs e' H',runs (callL ft) (pureV ft) nid os e H = some (gs,e',H') ∧ Q (fs ++ gs) e' H'
section
variable {ft : FT} {e : Env} {H : Heap} {Q : AExit → Env → Heap → Prop}
theorem AW.mono {c : ACode} {Q' : AExit → Env → Heap → Prop} (h : AW ft c e H Q) (hq : ∀ x e' H',Q x e' H' → Q' x e' H') : AW ft c e H Q':=by
 obtain ⟨x,e',H',h1,h2⟩:=h
 exact ⟨x,e',H',h1,hq _ _ _ h2⟩
theorem AW_skip : AW ft .skip e H Q ↔ Q .normal e H:=by
 constructor
 ·rintro ⟨x,e',H',h,hq⟩
  rw [execL_skip] at h
  cases h
  exact hq
 ·intro h; exact ⟨_,_,_,execL_skip e H,h⟩
theorem AW_exit {id : Nat} : AW ft (.exit id) e H Q ↔ Q (.exit id) e H:=by
 constructor
 ·rintro ⟨x,e',H',h,hq⟩
  rw [execL_exit] at h
  cases h
  exact hq
 ·intro h; exact ⟨_,_,_,execL_exit id e H,h⟩
theorem AW_ret : AW ft .ret e H Q ↔ Q .ret e H:=by
 constructor
 ·rintro ⟨x,e',H',h,hq⟩
  rw [execL_ret] at h
  cases h
  exact hq
 ·intro h; exact ⟨_,_,_,execL_ret e H,h⟩
def thenA (R : Env → Heap → Prop) (Q : AExit → Env → Heap → Prop) : AExit → Env → Heap → Prop
 | .normal,e,H => R e H
 | x,e,H => Q x e H
theorem thenA_normal {R : Env → Heap → Prop} : thenA R Q .normal e H = R e H:=rfl
theorem thenA_exit {R : Env → Heap → Prop} {id : Nat} : thenA R Q (.exit id) e H = Q (.exit id) e H:=rfl
theorem thenA_ret {R : Env → Heap → Prop} : thenA R Q .ret e H = Q .ret e H:=rfl
theorem AW_seq {a b : ACode} : AW ft (.seq a b) e H Q ↔ AW ft a e H (thenA (fun e H => AW ft b e H Q) Q):=by
 constructor
 ·rintro ⟨x,e',H',h,hq⟩
  rw [execL_seq,Option.bind_eq_some_iff] at h
  obtain ⟨⟨y,e1,H1⟩,h1,h2⟩:=h
  refine ⟨y,e1,H1,h1,?_⟩
  cases y with
  | normal => exact ⟨x,e',H',h2,hq⟩
  | exit id => cases h2; exact hq
  | ret => cases h2; exact hq
 ·rintro ⟨y,e1,H1,h1,hq⟩
  cases y with
  | normal =>
   obtain ⟨x,e',H',h2,hq⟩:=hq
   exact ⟨x,e',H',by rw [execL_seq,h1]; exact h2,hq⟩
  | exit id => exact ⟨.exit id,e1,H1,by rw [execL_seq,h1]; rfl,hq⟩
  | ret => exact ⟨.ret,e1,H1,by rw [execL_seq,h1]; rfl,hq⟩
theorem AW_cond {c : Operand} {a b : ACode} {t : Bool} (h : ev e c = .sc (.bool t)) : AW ft (.cond c a b) e H Q ↔ if t = true then AW ft a e H Q else AW ft b e H Q:=by
 have : execL ft (.cond c a b) e H = if t = true then execL ft a e H else execL ft b e H:=by
  rw [execL_cond,h]
  rfl
 unfold AW
 rw [this]
 cases t <;> rfl
def blockA (id : Nat) (Q : AExit → Env → Heap → Prop) : AExit → Env → Heap → Prop
 | .exit j,e,H => if j = id then Q .normal e H else Q (.exit j) e H
 | x,e,H => Q x e H
theorem blockA_normal {id : Nat} : blockA id Q .normal e H = Q .normal e H:=rfl
theorem blockA_ret {id : Nat} : blockA id Q .ret e H = Q .ret e H:=rfl
theorem blockA_exit {id j : Nat} : blockA id Q (.exit j) e H = if j = id then Q .normal e H else Q (.exit j) e H:=rfl
theorem AW_block {id : Nat} {c : ACode} : AW ft (.block id c) e H Q ↔ AW ft c e H (blockA id Q):=by
 constructor
 ·rintro ⟨x,e',H',h,hq⟩
  rw [execL_block,Option.map_eq_some_iff] at h
  obtain ⟨⟨y,e1,H1⟩,h1,h2⟩:=h
  simp only [Prod.mk.injEq] at h2
  obtain ⟨rfl,rfl,rfl⟩:=h2
  refine ⟨y,e1,H1,h1,?_⟩
  cases y with
  | normal => exact hq
  | ret => exact hq
  | exit j =>
   rw [blockA_exit]
   by_cases hj : j = id
   ·subst hj
    rw [if_pos rfl] at hq ⊢
    exact hq
   ·rw [if_neg hj]
    rw [if_neg (by simpa using hj)] at hq
    exact hq
 ·rintro ⟨y,e1,H1,h1,hq⟩
  refine ⟨if y = .exit id then .normal else y,e1,H1,by rw [execL_block,h1]; rfl,?_⟩
  cases y with
  | normal => exact hq
  | ret => exact hq
  | exit j =>
   rw [blockA_exit] at hq
   by_cases hj : j = id
   ·subst hj
    rw [if_pos rfl] at hq ⊢
    exact hq
   ·rw [if_neg hj] at hq
    rw [if_neg (by simpa using hj)]
    exact hq
theorem AW_loop {c : ACode} : AW ft (.loop c) e H Q ↔ AW ft c e H (thenA (fun e H => AW ft (.loop c) e H Q) Q):=by
 constructor
 ·rintro ⟨x,e',H',h,hq⟩
  rw [execL_loop,Option.bind_eq_some_iff] at h
  obtain ⟨⟨y,e1,H1⟩,h1,h2⟩:=h
  refine ⟨y,e1,H1,h1,?_⟩
  cases y with
  | normal => exact ⟨x,e',H',h2,hq⟩
  | exit id => cases h2; exact hq
  | ret => cases h2; exact hq
 ·rintro ⟨y,e1,H1,h1,hq⟩
  cases y with
  | normal =>
   obtain ⟨x,e',H',h2,hq⟩:=hq
   exact ⟨x,e',H',by rw [execL_loop,h1]; exact h2,hq⟩
  | exit id => exact ⟨.exit id,e1,H1,by rw [execL_loop,h1]; rfl,hq⟩
  | ret => exact ⟨.ret,e1,H1,by rw [execL_loop,h1]; rfl,hq⟩
theorem AW_region {os : List AOper} : AW ft (.region os false []) e H Q ↔ OW ft os e H (Q .normal):=by
 constructor
 ·rintro ⟨x,e',H',h,hq⟩
  rw [execL_region,Option.map_eq_some_iff] at h
  obtain ⟨⟨e1,H1⟩,h1,h2⟩:=h
  simp only [Prod.mk.injEq] at h2
  obtain ⟨rfl,rfl,rfl⟩:=h2
  exact ⟨e1,H1,h1,hq⟩
 ·rintro ⟨e1,H1,h1,hq⟩
  exact ⟨.normal,e1,H1,by rw [execL_region,h1]; rfl,hq⟩
noncomputable def okP (prs : List (Nat × Nat)) (fs : List FQ) : Bool:=prs.all fun p => compat (fs.getD p.1 .no) (fs.getD p.2 .no)
theorem AW_drawn {os : List AOper} {prs : List (Nat × Nat)} : AW ft (.region os true prs) e H Q ↔ DW ft H.next os [] e (H.pad (nAls os)) (fun fs e H => okP prs fs = true ∧ Q .normal e H):=by
 constructor
 ·rintro ⟨x,e',H',h,hq⟩
  rw [execL_drawn,Option.map_eq_some_iff] at h
  obtain ⟨⟨e1,H1⟩,h1,h2⟩:=h
  cases h2
  simp only [drawn,Option.bind_eq_some_iff] at h1
  obtain ⟨⟨fs,e2,H2⟩,h1,h2⟩:=h1
  split at h2
  ·cases h2
   exact ⟨fs,_,_,h1,‹_›,hq⟩
  ·cases h2
 ·rintro ⟨fs,e1,H1,h1,h2,hq⟩
  refine ⟨.normal,e1,H1,?_,hq⟩
  rw [execL_drawn]
  simp only [drawn,h1,Option.bind_some]
  rw [if_pos (by simpa [okP] using h2)]
  rfl
theorem OW_nil {Q : Env → Heap → Prop} : OW ft [] e H Q ↔ Q e H:=by
 constructor
 ·rintro ⟨e',H',h,hq⟩
  cases h
  exact hq
 ·intro h; exact ⟨e,H,rfl,h⟩
def VW (ft : FT) (nid : Nat) (e : Env) (H : Heap) (o : AOp) (K : AV → Heap → Prop) : Prop:=∃ v H',opC (callL ft) nid e H o = some (v,H') ∧ K v H'
def GW (g : Option (Option Nat × Bool)) (e : Env) (yes no : Prop) : Prop:=knownA e g = true ∧ if wantA e g = true then yes else no
theorem GW_none {yes no : Prop} : GW none e yes no ↔ yes:=by simp [GW,knownA,wantA]
theorem GW_some {t : Nat} {b c : Bool} {yes no : Prop} (h : ev e (.tmp t) = .sc (.bool c)) : GW (some (some t,b)) e yes no ↔ if c = b then yes else no:=by
 have h' : e.getD t .bad = .sc (.bool c):=h
 unfold GW knownA wantA
 simp only [h']
 cases b <;> cases c <;> simp
theorem OW_cons {o : AOper} {os : List AOper} {Q : Env → Heap → Prop} : OW ft (o :: os) e H Q ↔ GW o.guard e (VW ft H.next e H o.op fun v H' => OW ft os (putA e o.dst v) H' Q) (OW ft os (putA e o.dst (.tup [])) H Q):=by
 constructor
 ·rintro ⟨e',H',h,hq⟩
  simp only [opers,Option.bind_eq_some_iff] at h
  obtain ⟨⟨e1,H1⟩,h1,h2⟩:=h
  unfold oper at h1
  split at h1
  rotate_left
  ·cases h1
  rename_i hk
  refine ⟨hk,?_⟩
  split at h1
  ·rename_i hw
   rw [if_pos hw]
   simp only [Option.map_eq_some_iff,Prod.mk.injEq] at h1
   obtain ⟨⟨v,K⟩,h1,rfl,rfl⟩:=h1
   exact ⟨v,K,h1,e',H',h2,hq⟩
  ·rename_i hw
   rw [if_neg hw]
   cases h1
   exact ⟨e',H',h2,hq⟩
 ·rintro ⟨hk,h⟩
  split at h
  ·rename_i hw
   obtain ⟨v,K,h1,e',H',h2,hq⟩:=h
   refine ⟨e',H',?_,hq⟩
   simp only [opers,oper,if_pos hk,if_pos hw,h1,Option.map_some,Option.bind_some]
   exact h2
  ·rename_i hw
   obtain ⟨e',H',h2,hq⟩:=h
   refine ⟨e',H',?_,hq⟩
   simp only [opers,oper,if_pos hk,if_neg hw,Option.bind_some]
   exact h2
theorem DW_nil {nid : Nat} {fs : List FQ} {Q : List FQ → Env → Heap → Prop} : DW ft nid [] fs e H Q ↔ Q fs e H:=by
 constructor
 ·rintro ⟨gs,e',H',h,hq⟩
  cases h
  simpa using hq
 ·intro h; exact ⟨[],e,H,rfl,by simpa using h⟩
theorem DW_cons {nid : Nat} {o : AOper} {os : List AOper} {fs : List FQ} {Q : List FQ → Env → Heap → Prop} : DW ft nid (o :: os) fs e H Q ↔
  GW o.guard e (VW ft nid e H o.op fun v H' => DW ft (nid + nAl o) os (fs ++ [exFQ (extO (pureV ft) e o.op) (mkFQ (fpS (pureV ft) nid e o.op) H H')]) (putA e o.dst v) H' Q) (DW ft (nid + nAl o) os (fs ++ [.loc false []]) (putA e o.dst (.tup [])) H Q):=by
 constructor
 ·rintro ⟨gs,e',H',h,hq⟩
  simp only [runs,Option.bind_eq_some_iff,Option.map_eq_some_iff,Prod.mk.injEq] at h
  obtain ⟨⟨e1,H1⟩,h1,⟨gs',e2,H2⟩,h2,rfl,rfl,rfl⟩:=h
  unfold oper at h1
  split at h1
  rotate_left
  ·cases h1
  rename_i hk
  refine ⟨hk,?_⟩
  split at h1
  ·rename_i hw
   rw [if_pos hw]
   simp only [Option.map_eq_some_iff,Prod.mk.injEq] at h1
   obtain ⟨⟨v,K⟩,h1,rfl,rfl⟩:=h1
   refine ⟨v,K,h1,gs',e2,H2,h2,?_⟩
   have : fpO (pureV ft) nid e o = fpS (pureV ft) nid e o.op:=by simp only [fpO,if_pos hw]
   unfold fqO at hq
   rw [this] at hq
   simpa using hq
  ·rename_i hw
   rw [if_neg hw]
   cases h1
   refine ⟨gs',e2,H2,h2,?_⟩
   have : fpO (pureV ft) nid e o = some (false,[]):=by simp only [fpO,if_neg hw]
   rw [fqO_some this] at hq
   simpa using hq
 ·rintro ⟨hk,h⟩
  split at h
  ·rename_i hw
   obtain ⟨v,K,h1,gs,e',H',h2,hq⟩:=h
   refine ⟨fqO (pureV ft) nid e o H K :: gs,e',H',?_,?_⟩
   ·simp only [runs,oper,if_pos hk,if_pos hw,h1,Option.map_some,Option.bind_some]
    rw [h2]
    rfl
   ·have : fpO (pureV ft) nid e o = fpS (pureV ft) nid e o.op:=by simp only [fpO,if_pos hw]
    unfold fqO
    rw [this]
    simpa using hq
  ·rename_i hw
   obtain ⟨gs,e',H',h2,hq⟩:=h
   refine ⟨fqO (pureV ft) nid e o H H :: gs,e',H',?_,?_⟩
   ·simp only [runs,oper,if_pos hk,if_neg hw,Option.bind_some]
    rw [h2]
    rfl
   ·have : fpO (pureV ft) nid e o = some (false,[]):=by simp only [fpO,if_neg hw]
    rw [fqO_some this]
    simpa using hq
theorem VW_op {nid : Nat} {o : AOp} {K : AV → Heap → Prop} {v : AV} {H' : Heap} (h : opC (callL ft) nid e H o = some (v,H')) : VW ft nid e H o K ↔ K v H':=by
 constructor
 ·rintro ⟨v',H'',h1,hk⟩
  rw [h] at h1
  cases h1
  exact hk
 ·intro hk; exact ⟨v,H',h,hk⟩
def KW (ft : FT) (f : AV) (args : List AV) (H : Heap) (K : AV → Heap → Prop) : Prop:=∃ v H',callL ft f args H = some (v,H') ∧ K v H'
theorem VW_call {nid : Nat} {f : Operand} {args : List Operand} {K : AV → Heap → Prop} : VW ft nid e H (.call f args) K ↔ KW ft (ev e f) (args.map (ev e)) H K:=Iff.rfl
theorem KW_of {f : AV} {args : List AV} {K : AV → Heap → Prop} {v : AV} {H' : Heap} (h : callL ft f args H = some (v,H')) : KW ft f args H K ↔ K v H':=by
 constructor
 ·rintro ⟨v',H'',h1,hk⟩
  rw [h] at h1
  cases h1
  exact hk
 ·intro hk; exact ⟨v,H',h,hk⟩
end
theorem callL_fn (ft : FT) (k : FuncId) (first caps args : List AV) (H : Heap) : callL ft (.fn (.func k) first caps) args H = callF ft (execL ft) k (first ++ args ++ caps) H:=rfl
theorem call_pure {ft : FT} {k : FuncId} {first caps args as' : List AV} {H H1 : Heap} {n : Nat} {rs : List ARes} {body : ACode} {R : AV} (hk : ft k = some (.go true n rs body)) (hz : frzCells H (first ++ args ++ caps) = some (as',H1)) (hl : as'.length ≤ n)
  (h : AW ft body (mkE n (ofL as')) Heap.empty fun x e Hc => leaves x = true ∧ ∃ r0 Hc',resultsA Hc e rs = some r0 ∧ frz FZ Hc r0 = some (R,Hc')) : callL ft (.fn (.func k) first caps) args H = some (R,H1):=by
 obtain ⟨x,e',Hc,h1,hx,r0,Hc',h2,h3⟩:=h
 rw [callL_fn]
 unfold callF
 simp only [hk,hz,Option.bind_some,enterE_mkE n as' hl,h1,hx,if_true,h2,h3,Option.map_some]
theorem call_open {ft : FT} {k : FuncId} {first caps args : List AV} {H H1 : Heap} {n : Nat} {rs : List ARes} {body : ACode} {R : AV} (hk : ft k = some (.go false n rs body)) (hl : (first ++ args ++ caps).length ≤ n)
  (h : AW ft body (mkE n (ofL (first ++ args ++ caps))) H fun x e Hc => leaves x = true ∧ resultsA Hc e rs = some R ∧ Hc = H1) : callL ft (.fn (.func k) first caps) args H = some (R,H1):=by
 obtain ⟨x,e',Hc,h1,hx,h2,rfl⟩:=h
 rw [callL_fn]
 unfold callF
 simp only [hk,enterE_mkE n _ hl,h1,Option.bind_some,hx,if_true,h2,Option.map_some]
theorem call_pprim {ft : FT} {k : FuncId} {first caps args as' : List AV} {H H1 : Heap} {p : List AV → Option AV} {R : AV} (hk : ft k = some (.pprim p)) (hz : frzCells H (first ++ args ++ caps) = some (as',H1)) (h : p as' = some R) :
  callL ft (.fn (.func k) first caps) args H = some (R,H1):=by
 rw [callL_fn]
 unfold callF
 simp only [hk,hz,Option.bind_some,h,Option.map_some]
end Go.VI
namespace Go.VI
def PW {α : Type} (o : Option (α × Heap)) (K : α → Heap → Prop) : Prop:=∃ v H',o = some (v,H') ∧ K v H'
theorem PW_some {α : Type} {v : α} {H : Heap} {K : α → Heap → Prop} : PW (some (v,H)) K ↔ K v H:=by
 constructor
 ·rintro ⟨v',H',h,hk⟩
  cases h
  exact hk
 ·intro h; exact ⟨v,H,rfl,h⟩
theorem PW_ite {α : Type} {c : Prop} [Decidable c] {a b : Option (α × Heap)} {K : α → Heap → Prop} : PW (if c then a else b) K ↔ if c then PW a K else PW b K:=by
 split <;> rfl
theorem PW_none {α : Type} {K : α → Heap → Prop} : PW (none : Option (α × Heap)) K ↔ False:=by
 constructor
 ·rintro ⟨v',H',h,hk⟩
  cases h
 ·intro h; cases h
section
variable {ft : FT} {e : Env} {H : Heap} {nid : Nat} {K : AV → Heap → Prop}
theorem VW_mov (x : Operand) : VW ft nid e H (.mov x) K ↔ K (ev e x) H:=VW_op rfl
theorem VW_pick (c a b : Operand) : VW ft nid e H (.pick c a b) K ↔ PW (opS nid e H (.pick c a b)) K:=Iff.rfl
theorem VW_alloc (z : List AV) : VW ft nid e H (.alloc z) K ↔ K (.ptr nid 0 0) (H.put nid (.box false z)):=VW_op rfl
theorem VW_box (n : Nat) (x : Operand) : VW ft nid e H (.box n x) K ↔ PW (opS nid e H (.box n x)) K:=Iff.rfl
theorem VW_build (z : List AV) (ps : List (Nat × Nat × Operand)) : VW ft nid e H (.build z ps) K ↔ PW (opS nid e H (.build z ps)) K:=Iff.rfl
theorem VW_bslice (sz : Nat) (z : List AV) (len : Nat) (ps : List (Nat × Operand)) : VW ft nid e H (.bslice sz z len ps) K ↔ PW (opS nid e H (.bslice sz z len ps)) K:=Iff.rfl
theorem VW_load (g : Bool) (n : Nat) (a : Operand) : VW ft nid e H (.load g n a) K ↔ PW (opS nid e H (.load g n a)) K:=Iff.rfl
theorem VW_store (n : Nat) (a x : Operand) : VW ft nid e H (.store n a x) K ↔ PW (opS nid e H (.store n a x)) K:=Iff.rfl
theorem VW_nilck (x : Operand) : VW ft nid e H (.nilck x) K ↔ PW (opS nid e H (.nilck x)) K:=Iff.rfl
theorem VW_bin (op : BinOp) (t : TypeId) (x y : Operand) : VW ft nid e H (.bin op t x y) K ↔ PW (opS nid e H (.bin op t x y)) K:=Iff.rfl
theorem VW_isnil (a : Bool) (b : Nat) (x : Operand) : VW ft nid e H (.isnil a b x) K ↔ PW (opS nid e H (.isnil a b x)) K:=Iff.rfl
theorem VW_eqs (a : Bool) (b : List Nat) (x y : Operand) : VW ft nid e H (.eqs a b x y) K ↔ PW (opS nid e H (.eqs a b x y)) K:=Iff.rfl
theorem VW_eqb (a : Bool) (x y : Operand) : VW ft nid e H (.eqb a x y) K ↔ PW (opS nid e H (.eqb a x y)) K:=Iff.rfl
theorem VW_conv (a : IntKind) (x : Operand) : VW ft nid e H (.conv a x) K ↔ PW (opS nid e H (.conv a x)) K:=Iff.rfl
theorem VW_stringish (x : Operand) : VW ft nid e H (.stringish x) K ↔ PW (opS nid e H (.stringish x)) K:=Iff.rfl
theorem VW_tostr (x : Operand) : VW ft nid e H (.tostr x) K ↔ PW (opS nid e H (.tostr x)) K:=Iff.rfl
theorem VW_mkfn (f : Fn) (a b : List Operand) : VW ft nid e H (.mkfn f a b) K ↔ K (.fn f (a.map (ev e)) (b.map (ev e))) H:=VW_op rfl
theorem VW_mkslice (a b : Nat) (z : List AV) (x y : Operand) : VW ft nid e H (.mkslice a b z x y) K ↔ PW (opS nid e H (.mkslice a b z x y)) K:=Iff.rfl
theorem VW_slice (a : Nat) (x : Operand) (b c d : Option Operand) : VW ft nid e H (.slice a x b c d) K ↔ PW (opS nid e H (.slice a x b c d)) K:=Iff.rfl
theorem VW_slstr (x : Operand) (b c : Option Operand) : VW ft nid e H (.slstr x b c) K ↔ PW (opS nid e H (.slstr x b c)) K:=Iff.rfl
theorem VW_faddr (a : Nat) (x : Operand) : VW ft nid e H (.faddr a x) K ↔ PW (opS nid e H (.faddr a x)) K:=Iff.rfl
theorem VW_field (g : Bool) (a b : Nat) (x : Operand) : VW ft nid e H (.field g a b x) K ↔ PW (opS nid e H (.field g a b x)) K:=Iff.rfl
theorem VW_iaddr (a : Option Nat) (b : Nat) (x y : Operand) : VW ft nid e H (.iaddr a b x y) K ↔ PW (opS nid e H (.iaddr a b x y)) K:=Iff.rfl
theorem VW_index (a : Nat) (g : Bool) (b : Nat) (x y : Operand) : VW ft nid e H (.index a g b x y) K ↔ PW (opS nid e H (.index a g b x y)) K:=Iff.rfl
theorem VW_ext (x : Operand) (i : Nat) : VW ft nid e H (.ext x i) K ↔ PW (opS nid e H (.ext x i)) K:=Iff.rfl
theorem VW_mx2 (x y : Operand) : VW ft nid e H (.mx2 x y) K ↔ PW (opS nid e H (.mx2 x y)) K:=Iff.rfl
theorem VW_mn2 (x y : Operand) : VW ft nid e H (.mn2 x y) K ↔ PW (opS nid e H (.mn2 x y)) K:=Iff.rfl
theorem VW_app (a b : Nat) (x y : Operand) : VW ft nid e H (.app a b x y) K ↔ PW (opS nid e H (.app a b x y)) K:=Iff.rfl
theorem VW_copy (a : Nat) (x y : Operand) : VW ft nid e H (.copy a x y) K ↔ PW (opS nid e H (.copy a x y)) K:=Iff.rfl
theorem VW_mkmap (k : Option IntKind) : VW ft nid e H (.mkmap k) K ↔ K (.mp nid) (H.put nid (.mpb k [] [] 0)):=VW_op rfl
theorem VW_look (k : Option IntKind) (z : AV) (x y : Operand) (b : Bool) : VW ft nid e H (.look k z x y b) K ↔ PW (opS nid e H (.look k z x y b)) K:=Iff.rfl
theorem VW_mput (k : Option IntKind) (x y z : Operand) : VW ft nid e H (.mput k x y z) K ↔ PW (opS nid e H (.mput k x y z)) K:=Iff.rfl
end
theorem AW_congr {ft : FT} {c : ACode} {e e' : Env} {H H' : Heap} {Q : AExit → Env → Heap → Prop} (h1 : e = e') (h2 : H = H') : AW ft c e H Q = AW ft c e' H' Q:=by rw [h1,h2]
theorem OW_congr {ft : FT} {os : List AOper} {e e' : Env} {H H' : Heap} {Q : Env → Heap → Prop} (h1 : e = e') (h2 : H = H') : OW ft os e H Q = OW ft os e' H' Q:=by rw [h1,h2]
theorem DW_congr {ft : FT} {nid nid' : Nat} {os : List AOper} {fs fs' : List FQ} {e e' : Env} {H H' : Heap} {Q : List FQ → Env → Heap → Prop} (h0 : nid = nid') (h3 : fs = fs') (h1 : e = e') (h2 : H = H') : DW ft nid os fs e H Q = DW ft nid' os fs' e' H' Q:=by rw [h0,h1,h2,h3]
theorem VW_congr {ft : FT} {nid nid' : Nat} {o : AOp} {e e' : Env} {H H' : Heap} {K : AV → Heap → Prop} (h0 : nid = nid') (h1 : e = e') (h2 : H = H') : VW ft nid e H o K = VW ft nid' e' H' o K:=by rw [h0,h1,h2]
theorem GW_congr {g g' : Option (Option Nat × Bool)} {e e' : Env} {a b : Prop} (h0 : g = g') (h1 : e = e') : GW g e a b = GW g' e' a b:=by rw [h0,h1]
theorem PW_congr {α : Type} {o o' : Option (α × Heap)} {K : α → Heap → Prop} (h : o = o') : PW o K = PW o' K:=by rw [h]
theorem KW_congr {ft : FT} {f f' : AV} {args args' : List AV} {H H' : Heap} {K : AV → Heap → Prop} (h1 : f = f') (h2 : args = args') (h3 : H = H') : KW ft f args H K = KW ft f' args' H' K:=by rw [h1,h2,h3]
theorem ite_congr' {α : Sort _} {c c' : Prop} [Decidable c] [Decidable c'] {a b : α} (h : c = c') : ite c a b = ite c' a b:=by
 subst h
 congr
def GV (v : AV) (b : Bool) (yes no : Prop) : Prop:=(∃ c,v = .sc (.bool c) ∧ if c = b then yes else no) ∨ (v = .tup [] ∧ no)
theorem GW_tmp {t : Nat} {b : Bool} {e : Env} {yes no : Prop} : GW (some (some t,b)) e yes no ↔ GV (ev e (.tmp t)) b yes no:=by
 constructor
 ·rintro ⟨h1,h2⟩
  simp only [knownA] at h1
  split at h1
  ·rename_i c hc
   refine .inl ⟨c,hc,?_⟩
   simp only [wantA,hc] at h2
   cases b <;> cases c <;> simpa using h2
  ·rename_i hc
   refine .inr ⟨hc,?_⟩
   simp only [wantA,hc] at h2
   simpa using h2
  ·cases h1
 ·rintro (⟨c,hc,h⟩ | ⟨hc,h⟩)
  ·exact (GW_some hc).2 h
  ·have hc' : e.getD t .bad = .tup []:=hc
   unfold GW knownA wantA
   simp only [hc']
   simpa using h
theorem GV_true {c : Bool} {yes no : Prop} : GV (.sc (.bool c)) true yes no ↔ if c = true then yes else no:=by simp [GV]
theorem GV_false {c : Bool} {yes no : Prop} : GV (.sc (.bool c)) false yes no ↔ if c = true then no else yes:=by cases c <;> simp [GV]
theorem GV_skip {b : Bool} {yes no : Prop} : GV (.tup []) b yes no ↔ no:=by simp [GV]
theorem GV_congr {v v' : AV} {b : Bool} {x y : Prop} (h : v = v') : GV v b x y = GV v' b x y:=by rw [h]
def CV (v : AV) (yes no : Prop) : Prop:=∃ c,v = .sc (.bool c) ∧ if c = true then yes else no
theorem AW_cond' {ft : FT} {c : Operand} {a b : ACode} {e : Env} {H : Heap} {Q : AExit → Env → Heap → Prop} : AW ft (.cond c a b) e H Q ↔ CV (ev e c) (AW ft a e H Q) (AW ft b e H Q):=by
 constructor
 ·rintro ⟨x,e',H',h,hq⟩
  rw [execL_cond,Option.bind_eq_some_iff] at h
  obtain ⟨t,ht,h⟩:=h
  unfold toB at ht
  split at ht
  ·rename_i q hv
   cases ht
   refine ⟨t,hv,?_⟩
   cases t with
   | true => exact ⟨x,e',H',h,hq⟩
   | false => exact ⟨x,e',H',h,hq⟩
  ·cases ht
 ·rintro ⟨t,ht,h⟩
  exact (AW_cond ht).2 h
theorem CV_bool {c : Bool} {yes no : Prop} : CV (.sc (.bool c)) yes no ↔ if c = true then yes else no:=by simp [CV]
theorem CV_congr {v v' : AV} {x y : Prop} (h : v = v') : CV v x y = CV v' x y:=by rw [h]
theorem ofC_int (k : IntKind) (n : Int) : ofC (.int k n) = .sc (.int k n):=rfl
theorem ofC_bool (b : Bool) : ofC (.bool b) = .sc (.bool b):=rfl
theorem ofC_slice : ofC (.slice none 0 0) = .sc (.slice none 0 0):=rfl
theorem ofC_str (s : ByteArray) : ofC (.string s) = .sc (.string s):=rfl
theorem ofC_nilF : ofC .nilFunc = .sc .nilFunc:=rfl
theorem ofC_nilP : ofC (.pointer none) = .sc (.pointer none):=rfl
theorem ofC_nilM : ofC (.map none) = .sc (.map none):=rfl
theorem toI_sc (k : IntKind) (n : Int) : toI (.sc (.int k n)) = some n:=rfl
theorem toB_sc (b : Bool) : toB (.sc (.bool b)) = some b:=rfl
section
variable {k : IntKind} {t : TypeId} {a b : Int}
theorem bin_add : binA .add t (.sc (.int k a)) (.sc (.int k b)) = some (.sc (.int k (k.wrap (a + b)))):=by
 simp [binA,binOp,Op.intArith,Op.intCmp,pureRun,ofScalar,isSc,pure]
theorem bin_sub : binA .sub t (.sc (.int k a)) (.sc (.int k b)) = some (.sc (.int k (k.wrap (a - b)))):=by
 simp [binA,binOp,Op.intArith,Op.intCmp,pureRun,ofScalar,isSc,pure]
theorem bin_mul : binA .mul t (.sc (.int k a)) (.sc (.int k b)) = some (.sc (.int k (k.wrap (a * b)))):=by
 simp [binA,binOp,Op.intArith,Op.intCmp,pureRun,ofScalar,isSc,pure]
theorem bin_lss : binA .lss t (.sc (.int k a)) (.sc (.int k b)) = some (.sc (.bool (decide (a < b)))):=by
 simp [binA,binOp,Op.intArith,Op.intCmp,pureRun,ofScalar,isSc,pure]
theorem bin_leq : binA .leq t (.sc (.int k a)) (.sc (.int k b)) = some (.sc (.bool (decide (a ≤ b)))):=by
 simp [binA,binOp,Op.intArith,Op.intCmp,pureRun,ofScalar,isSc,pure]
theorem bin_gtr : binA .gtr t (.sc (.int k a)) (.sc (.int k b)) = some (.sc (.bool (decide (a > b)))):=by
 simp [binA,binOp,Op.intArith,Op.intCmp,pureRun,ofScalar,isSc,pure]
theorem bin_geq : binA .geq t (.sc (.int k a)) (.sc (.int k b)) = some (.sc (.bool (decide (a ≥ b)))):=by
 simp [binA,binOp,Op.intArith,Op.intCmp,pureRun,ofScalar,isSc,pure]
theorem bin_eql : binA .eql t (.sc (.int k a)) (.sc (.int k b)) = some (.sc (.bool (a == b))):=by
 simp [binA,binOp,Op.intArith,Op.intCmp,pureRun,ofScalar,isSc,pure]
theorem bin_neq : binA .neq t (.sc (.int k a)) (.sc (.int k b)) = some (.sc (.bool (a != b))):=by
 simp [binA,binOp,Op.intArith,Op.intCmp,pureRun,ofScalar,isSc,pure]
end
section
variable {α : Type} {g : α → List AV} {l : List α} {H : Heap} {sz i off n : Nat}
theorem iaddr_map (hi : i < l.length) (hg : ∀ x,(g x).length = sz) : iaddrA H none sz (.lst (l.map g)) (i : Int) = some (.pim (l.map g) i 0):=by
 unfold iaddrA
 simp [hi,hg]
theorem cells_map (hi : i < l.length) : cellsAt H (.pim (l.map g) i off) n = if off + n ≤ (g l[i]).length then some (((g l[i]).drop off).take n) else none:=by
 unfold cellsAt
 simp [hi]
end
theorem wrap_i64 {n : Int} (h : -9223372036854775808 ≤ n ∧ n ≤ 9223372036854775807) : IntKind.i64.wrap n = n:=IntWalk.i64_in _ (by omega)
theorem wrap_succ {i : Nat} (h : i < 9223372036854775807) : IntKind.i64.wrap ((i : Int) + 1) = ((i + 1 : Nat) : Int):=by
 rw [wrap_i64 (by omega)]
 rfl
theorem frz_lst (n : Nat) (H : Heap) (rows : List (List AV)) : frz (n + 1) H (.lst rows) = some (.lst rows,H):=rfl
theorem frz_pim (n : Nat) (H : Heap) (rows : List (List AV)) (i off : Nat) : frz (n + 1) H (.pim rows i off) = some (.pim rows i off,H):=rfl
theorem frz_int (n : Nat) (H : Heap) (k : IntKind) (x : Int) : frz (n + 1) H (.sc (.int k x)) = some (.sc (.int k x),H):=rfl
theorem frz_bool (n : Nat) (H : Heap) (x : Bool) : frz (n + 1) H (.sc (.bool x)) = some (.sc (.bool x),H):=rfl
theorem frz_str (n : Nat) (H : Heap) (x : ByteArray) : frz (n + 1) H (.sc (.string x)) = some (.sc (.string x),H):=rfl
theorem frz_nils (n : Nat) (H : Heap) : frz (n + 1) H (.sc (.slice none 0 0)) = some (.lst [],H):=rfl
theorem frz_nilf (n : Nat) (H : Heap) : frz (n + 1) H (.sc .nilFunc) = some (.sc .nilFunc,H):=rfl
theorem frzL_nil (n : Nat) (H : Heap) : frz.frzL (n + 1) H [] = some ([],H):=rfl
theorem frzL_cons (n : Nat) (H : Heap) (c : AV) (cs : List AV) : frz.frzL (n + 1) H (c :: cs) = (frz n H c).bind fun p => (frz.frzL n p.2 cs).bind fun q => some (p.1 :: q.1,q.2):=rfl
end Go.VI
namespace Go.VI
def hx (K : Heap) (L : List Blk) : Heap:=⟨K.bs ++ L⟩
theorem hx_nil (K : Heap) : hx K [] = K:=by simp [hx]
section
variable (K : Heap) (L : List Blk) (b : Blk) (i : Nat)
theorem hx_next : (hx K L).next = K.next + L.length:=by simp [hx,Heap.next]
theorem hx_put : (hx K L).put (K.next + i) b = if i < L.length then hx K (L.set i b) else hx K (L ++ [b]):=by
 unfold Heap.put
 rw [hx_next]
 by_cases h : i < L.length
 ·rw [if_pos (by omega),if_pos h]
  simp only [Heap.set,hx,Heap.next]
  congr 1
  rw [List.set_append_right _ _ (by omega)]
  congr 2
  omega
 ·rw [if_neg (by omega),if_neg h]
  simp [Heap.push,hx]
theorem hx_put0 : (hx K L).put K.next b = if 0 < L.length then hx K (L.set 0 b) else hx K (L ++ [b]):=hx_put K L b 0
theorem hx_get : (hx K L).get (K.next + i) = L[i]?:=by
 simp only [Heap.get,hx,Heap.next]
 rw [List.getElem?_append_right (by omega)]
 congr 1
 omega
theorem hx_get0 : (hx K L).get K.next = L[0]?:=hx_get K L 0
theorem hx_get_old (h : i < K.next) : (hx K L).get i = K.get i:=by
 simp only [Heap.get,hx,Heap.next] at *
 rw [List.getElem?_append_left h]
theorem hx_set : (hx K L).set (K.next + i) b = hx K (L.set i b):=by
 simp only [Heap.set,hx,Heap.next]
 rw [List.set_append_right _ _ (by omega)]
 congr 3
 omega
theorem hx_set0 : (hx K L).set K.next b = hx K (L.set 0 b):=hx_set K L b 0
theorem hx_set_old (h : i < K.next) : (hx K L).set i b = hx (K.set i b) L:=by
 simp only [Heap.set,hx,Heap.next] at *
 rw [List.set_append_left _ _ h]
theorem hx_pad : (hx K L).pad i = hx K (L ++ List.replicate i .dead):=by simp [hx,Heap.pad]
theorem hxe_put : (hx Heap.empty L).put i b = if i < L.length then hx Heap.empty (L.set i b) else hx Heap.empty (L ++ [b]):=by
 have:=hx_put Heap.empty L b i
 rwa [Heap.next_empty,Nat.zero_add] at this
theorem hxe_get : (hx Heap.empty L).get i = L[i]?:=by
 have:=hx_get Heap.empty L i
 rwa [Heap.next_empty,Nat.zero_add] at this
theorem hxe_set : (hx Heap.empty L).set i b = hx Heap.empty (L.set i b):=by
 have:=hx_set Heap.empty L b i
 rwa [Heap.next_empty,Nat.zero_add] at this
theorem hxe_next : (hx Heap.empty L).next = L.length:=by rw [hx_next]; simp
end
section
variable {K : Heap} {L : List Blk} {b : Blk} {i N : Nat} (h : K.next = N)
include h
theorem hx_putN : (hx K L).put (N + i) b = if i < L.length then hx K (L.set i b) else hx K (L ++ [b]):=h ▸ hx_put K L b i
theorem hx_putN0 : (hx K L).put N b = if 0 < L.length then hx K (L.set 0 b) else hx K (L ++ [b]):=h ▸ hx_put0 K L b
theorem hx_getN : (hx K L).get (N + i) = L[i]?:=h ▸ hx_get K L i
theorem hx_getN0 : (hx K L).get N = L[0]?:=h ▸ hx_get0 K L
theorem hx_setN : (hx K L).set (N + i) b = hx K (L.set i b):=h ▸ hx_set K L b i
theorem hx_setN0 : (hx K L).set N b = hx K (L.set 0 b):=h ▸ hx_set0 K L b
end
theorem nAls_nil : nAls [] = 0:=rfl
theorem nAls_cons (o : AOper) (os : List AOper) : nAls (o :: os) = nAl o + nAls os:=rfl
section
variable {ft : FT} {n : Nat} {f : Nat → AV} {K : Heap} {L : List Blk} {Q : AExit → Env → Heap → Prop}
theorem kw_skip : AW ft .skip (mkE n f) (hx K L) Q ↔ Q .normal (mkE n f) (hx K L):=AW_skip
theorem kw_exit {id : Nat} : AW ft (.exit id) (mkE n f) (hx K L) Q ↔ Q (.exit id) (mkE n f) (hx K L):=AW_exit
theorem kw_ret : AW ft .ret (mkE n f) (hx K L) Q ↔ Q .ret (mkE n f) (hx K L):=AW_ret
theorem kw_seq {a b : ACode} : AW ft (.seq a b) (mkE n f) (hx K L) Q ↔ AW ft a (mkE n f) (hx K L) (thenA (fun e H => AW ft b e H Q) Q):=AW_seq
theorem kw_block {id : Nat} {c : ACode} : AW ft (.block id c) (mkE n f) (hx K L) Q ↔ AW ft c (mkE n f) (hx K L) (blockA id Q):=AW_block
theorem kw_region {os : List AOper} : AW ft (.region os false []) (mkE n f) (hx K L) Q ↔ OW ft os (mkE n f) (hx K L) (Q .normal):=AW_region
theorem kw_cond {c : Operand} {a b : ACode} : AW ft (.cond c a b) (mkE n f) (hx K L) Q ↔ CV (ev (mkE n f) c) (AW ft a (mkE n f) (hx K L) Q) (AW ft b (mkE n f) (hx K L) Q):=AW_cond'
theorem ko_nil {Q : Env → Heap → Prop} : OW ft [] (mkE n f) (hx K L) Q ↔ Q (mkE n f) (hx K L):=OW_nil
theorem ko_cons {d : Option Nat} {op : AOp} {g : Option (Option Nat × Bool)} {os : List AOper} {Q : Env → Heap → Prop} : OW ft (⟨d,op,g⟩ :: os) (mkE n f) (hx K L) Q ↔
  GW g (mkE n f) (VW ft (hx K L).next (mkE n f) (hx K L) op fun v H' => OW ft os (putA (mkE n f) d v) H' Q) (OW ft os (putA (mkE n f) d (.tup [])) (hx K L) Q):=OW_cons
theorem kd_nil {nid : Nat} {fs : List FQ} {Q : List FQ → Env → Heap → Prop} : DW ft nid [] fs (mkE n f) (hx K L) Q ↔ Q fs (mkE n f) (hx K L):=DW_nil
theorem kd_cons {nid : Nat} {d : Option Nat} {op : AOp} {g : Option (Option Nat × Bool)} {os : List AOper} {fs : List FQ} {Q : List FQ → Env → Heap → Prop} : DW ft nid (⟨d,op,g⟩ :: os) fs (mkE n f) (hx K L) Q ↔
  GW g (mkE n f) (VW ft nid (mkE n f) (hx K L) op fun v H' => DW ft (nid + nAl ⟨d,op,g⟩) os (fs ++ [exFQ (extO (pureV ft) (mkE n f) op) (mkFQ (fpS (pureV ft) nid (mkE n f) op) (hx K L) H')]) (putA (mkE n f) d v) H' Q) (DW ft (nid + nAl ⟨d,op,g⟩) os (fs ++ [.loc false []]) (putA (mkE n f) d (.tup [])) (hx K L) Q):=DW_cons
end
def NW (ft : FT) (nid : Nat) (os : List AOper) (e : Env) (H : Heap) (Q : Env → Heap → Prop) : Prop:=∃ fs e' H',runs (callL ft) (pureV ft) nid os e H = some (fs,e',H') ∧ Q e' H'
theorem DW_NW {ft : FT} {nid : Nat} {os : List AOper} {fs : List FQ} {e : Env} {H : Heap} {Q : Env → Heap → Prop} : DW ft nid os fs e H (fun _ e H => Q e H) ↔ NW ft nid os e H Q:=Iff.rfl
theorem NW_congr {ft : FT} {nid nid' : Nat} {os : List AOper} {e e' : Env} {H H' : Heap} {Q : Env → Heap → Prop} (h0 : nid = nid') (h1 : e = e') (h2 : H = H') : NW ft nid os e H Q = NW ft nid' os e' H' Q:=by rw [h0,h1,h2]
section
variable {ft : FT} {n : Nat} {f : Nat → AV} {K : Heap} {L : List Blk} {Q : AExit → Env → Heap → Prop}
theorem kw_drawn0 {os : List AOper} : AW ft (.region os true []) (mkE n f) (hx K L) Q ↔ NW ft (hx K L).next os (mkE n f) ((hx K L).pad (nAls os)) (Q .normal):=by
 rw [AW_drawn,← DW_NW (fs:=[])]
 simp [okP]
theorem kw_drawn1 {os : List AOper} {p : Nat × Nat} {prs : List (Nat × Nat)} : AW ft (.region os true (p :: prs)) (mkE n f) (hx K L) Q ↔ DW ft (hx K L).next os [] (mkE n f) ((hx K L).pad (nAls os)) (fun fs e H => okP (p :: prs) fs = true ∧ Q .normal e H):=AW_drawn
theorem kn_nil {nid : Nat} {Q : Env → Heap → Prop} : NW ft nid [] (mkE n f) (hx K L) Q ↔ Q (mkE n f) (hx K L):=by
 rw [← DW_NW (fs:=[]),DW_nil]
theorem kn_cons {nid : Nat} {d : Option Nat} {op : AOp} {g : Option (Option Nat × Bool)} {os : List AOper} {Q : Env → Heap → Prop} : NW ft nid (⟨d,op,g⟩ :: os) (mkE n f) (hx K L) Q ↔
  GW g (mkE n f) (VW ft nid (mkE n f) (hx K L) op fun v H' => NW ft (nid + nAl ⟨d,op,g⟩) os (putA (mkE n f) d v) H' Q) (NW ft (nid + nAl ⟨d,op,g⟩) os (putA (mkE n f) d (.tup [])) (hx K L) Q):=by
 rw [← DW_NW (fs:=[]),DW_cons]
 rfl
end
theorem PW_known {α : Type} {v : α} {H : Heap} {L : List Blk} {K : α → Heap → Prop} : PW (some (v,hx H L)) K ↔ K v (hx H L):=PW_some
theorem frzCells_eq (H : Heap) (cs : List AV) : frzCells H cs = frz.frzL 24 H cs:=rfl
theorem frz_sl (n : Nat) (H : Heap) (id off len : Nat) : frz (n + 1) H (.sl id off len) = match H.get id with
   | some (.row fz sz rs) => if off + len ≤ rs.length then some (.lst ((rs.drop off).take len),if fz then H else H.set id (.row true sz rs)) else none
   | _ => none:=rfl
theorem frz_agg (n : Nat) (H : Heap) (cs : List AV) : frz (n + 1) H (.agg cs) = (frz.frzL n H cs).map fun p => (.agg p.1,p.2):=rfl
theorem frz_tup (n : Nat) (H : Heap) (cs : List AV) : frz (n + 1) H (.tup cs) = (frz.frzL n H cs).map fun p => (.tup p.1,p.2):=rfl
theorem frz_fn (n : Nat) (H : Heap) (f : Fn) (a b : List AV) : frz (n + 1) H (.fn f a b) = (frz.frzL n H a).bind fun p => (frz.frzL n p.2 b).bind fun q => some (.fn f p.1 q.1,q.2):=rfl
theorem frz_ptr (n : Nat) (H : Heap) (id i off : Nat) : frz (n + 1) H (.ptr id i off) = match H.get id with
   | some (.row fz sz rs) => some (.pim rs i off,if fz then H else H.set id (.row true sz rs))
   | some (.box true cs) => if i = 0 then some (.pim [cs] 0 off,H) else none
   | some (.box false cs) => if i = 0 then (frz.frzL n H cs).bind fun p =>
     match p.2.get id with
     | some (.box false _) => some (.pim [p.1] 0 off,p.2.set id (.box true p.1))
     | _ => none
    else none
   | _ => none:=rfl
theorem mkFQ_s (w : Bool) (t : List Nat) (H H' : Heap) : mkFQ (some (w,t)) H H' = .loc w t:=rfl
theorem mkFQ_n (H H' : Heap) : mkFQ none H H' = .any H H':=rfl
theorem sameAt_iff {H H' : Heap} {t : List Nat} : sameAt H H' t = true ↔ ∀ i ∈ t,H'.get i = H.get i:=by
 unfold sameAt
 exact @decide_eq_true_iff _ (Classical.propDecidable _)
theorem sameAt1 {H H' : Heap} {i : Nat} : (sameAt H H' [i] = true) = (H'.get i = H.get i):=by
 rw [sameAt_iff]
 simp
theorem compat_al (H H' : Heap) (t : List Nat) : compat (.any H H') (.loc false t) = sameAt H H' t:=by
 cases t with
 | nil => simp [compat,sameAt]
 | cons a t => simp [compat]
theorem compat_la (H H' : Heap) (t : List Nat) : compat (.loc false t) (.any H H') = sameAt H H' t:=by
 cases t with
 | nil => simp [compat,sameAt]
 | cons a t => simp [compat]
theorem compat_rr (t u : List Nat) : compat (.loc false t) (.loc false u) = true:=by
 unfold compat
 split <;> simp_all
theorem compat_ne {w1 w2 : Bool} {i j : Nat} (h : i ≠ j) : compat (.loc w1 [i]) (.loc w2 [j]) = true:=by
 have : (i == j) = false:=by simpa using h
 simp [compat,h,this]
theorem nne1 (n k : Nat) : (n = n + (k + 1)) = False:=eq_false (by omega)
theorem nne2 (n k : Nat) : (n + (k + 1) = n) = False:=eq_false (by omega)
theorem nne3 (n a b : Nat) : (n + a = n + b) = (a = b):=by simp
theorem sids_int (k : IntKind) (n : Int) : sids [.sc (.int k n)] = some []:=rfl
theorem sids_bool (b : Bool) : sids [.sc (.bool b)] = some []:=rfl
theorem sids_str (b : ByteArray) : sids [.sc (.string b)] = some []:=rfl
theorem sids_nils : sids [.sc (.slice none 0 0)] = some []:=rfl
theorem sids_nilf : sids [.sc .nilFunc] = some []:=rfl
theorem sids_lst (r : List (List AV)) : sids [.lst r] = some []:=rfl
theorem sids_pim (r : List (List AV)) (i o : Nat) : sids [.pim r i o] = some []:=rfl
theorem sids_sl (id off len : Nat) : sids [.sl id off len] = some [id]:=rfl
theorem rowsOf_sl (H : Heap) (id off len : Nat) : rowsOf H (.sl id off len) = match H.get id with
  | some (.row _ _ rs) => if off + len ≤ rs.length then some ((rs.drop off).take len) else none
  | _ => none:=rfl
theorem rowsOf_lst (H : Heap) (r : List (List AV)) : rowsOf H (.lst r) = some r:=rfl
theorem rowsOf_nil (H : Heap) : rowsOf H (.sc (.slice none 0 0)) = some []:=rfl
theorem appA_nil (nid : Nat) (H : Heap) (sz bytes : Nat) (xs : List (List AV)) : appA nid H sz bytes (.sc (.slice none 0 0)) xs = if xs.length = 0 then some (.sc (.slice none 0 0),H)
  else if xs.length * bytes ≤ 140737488355328 ∧ allSz sz xs = true then some (.sl nid 0 xs.length,H.put nid (.row false sz xs)) else none:=rfl
theorem appA_emp (nid : Nat) (H : Heap) (sz bytes : Nat) (xs : List (List AV)) : appA nid H sz bytes .emp xs = if xs.length = 0 then some (.emp,H)
  else if xs.length * bytes ≤ 140737488355328 ∧ allSz sz xs = true then some (.sl nid 0 xs.length,H.put nid (.row false sz xs)) else none:=rfl
theorem appA_sl (nid : Nat) (H : Heap) (sz bytes id off len : Nat) (xs : List (List AV)) : appA nid H sz bytes (.sl id off len) xs = match H.get id with
  | some (.row false sz' rs) =>
   if sz' = sz ∧ off + len ≤ rs.length ∧ (len + xs.length) * bytes ≤ 140737488355328 ∧ allSz sz xs = true then
    if off + len + xs.length ≤ rs.length then some (.sl id off (len + xs.length),H.set id (.row false sz (splice rs (off + len) xs)))
    else some (.sl nid 0 (len + xs.length),(H.set id .dead).put nid (.row false sz ((rs.drop off).take len ++ xs)))
   else none
  | _ => none:=rfl
theorem allSz_nil (sz : Nat) : allSz sz [] = true:=rfl
theorem allSz_cons (sz : Nat) (r : List AV) (rs : List (List AV)) : allSz sz (r :: rs) = (r.length == sz && allSz sz rs):=rfl
def Rep (K : Heap) (sz : Nat) (S : AV) (rows : List (List AV)) : Prop:=(S = .sc (.slice none 0 0) ∧ rows = []) ∨ ∃ id,S = .sl id 0 rows.length ∧ K.get id = some (.row false sz rows)
theorem Rep.mono {K K' : Heap} {sz : Nat} {S : AV} {rows : List (List AV)} (h : Rep K sz S rows) (hk : ∀ id,K.get id = some (.row false sz rows) → K'.get id = some (.row false sz rows)) : Rep K' sz S rows:=by
 rcases h with h | ⟨id,h1,h2⟩
 ·exact .inl h
 ·exact .inr ⟨id,h1,hk id h2⟩
def unA (op : UnOp) (v : AV) : Option AV:=(toV v).bind fun v => (pureRun (Op.unary op v)).bind ofScalar
theorem uw_un {ft : FT} {e : Env} {H : Heap} {nid : Nat} {K : AV → Heap → Prop} (a : UnOp) (x : Operand) : VW ft nid e H (.un a x) K ↔ PW ((unA a (ev e x)).map fun v => (v,H)) K:=by
 have : opC (callL ft) nid e H (.un a x) = (unA a (ev e x)).map fun v => (v,H):=by
  simp only [opC,opS,unA]
  cases toV (ev e x) <;> simp
  rename_i v
  cases pureRun (Op.unary a v) <;> simp
 unfold VW PW
 rw [this]
theorem unA_not (b : Bool) : unA .not (.sc (.bool b)) = some (.sc (.bool (!b))):=rfl
def lenV (H : Heap) (kd : Nat) (v : AV) : Option (AV × Heap):=match v with
 | .mp id => if kd = 2 then match H.get id with
   | some (.mpb _ es _ _) => some (.sc (.int .i64 (es.length : Int)),H)
   | _ => none
   else none
 | v => (lenOfA kd v).map fun (n : Nat) => (.sc (.int .i64 (n : Int)),H)
theorem lw_len {ft : FT} {e : Env} {H : Heap} {nid : Nat} {K : AV → Heap → Prop} (k : Nat) (x : Operand) : VW ft nid e H (.len k x) K ↔ PW (lenV H k (ev e x)) K:=Iff.rfl
theorem lenV_lst (H : Heap) (rows : List (List AV)) : lenV H 0 (.lst rows) = some (.sc (.int .i64 (rows.length : Int)),H):=rfl
theorem lenV_sl (H : Heap) (id off len : Nat) : lenV H 0 (.sl id off len) = some (.sc (.int .i64 (len : Int)),H):=rfl
theorem lenV_nil (H : Heap) : lenV H 0 (.sc (.slice none 0 0)) = some (.sc (.int .i64 (0 : Int)),H):=rfl
theorem lenV_str (H : Heap) (s : ByteArray) : lenV H 1 (.sc (.string s)) = some (.sc (.int .i64 (s.size : Int)),H):=rfl
theorem lenV_mp (H : Heap) (id : Nat) : lenV H 2 (.mp id) = match H.get id with
   | some (.mpb _ es _ _) => some (.sc (.int .i64 (es.length : Int)),H)
   | _ => none:=rfl
theorem ofL_at (l : List AV) (t : Nat) : ofL l t = l.getD t .bad:=rfl
theorem cells_agg (cs : List AV) : (AV.agg cs).cells = cs:=rfl
theorem cells_sc (v : Value) : (AV.sc v).cells = [.sc v]:=rfl
theorem cells_lst (r : List (List AV)) : (AV.lst r).cells = [.lst r]:=rfl
theorem cells_sl (a b c : Nat) : (AV.sl a b c).cells = [.sl a b c]:=rfl
theorem cells_ptr' (a b c : Nat) : (AV.ptr a b c).cells = [.ptr a b c]:=rfl
theorem cells_pim' (r : List (List AV)) (b c : Nat) : (AV.pim r b c).cells = [.pim r b c]:=rfl
theorem cells_fn (f : Fn) (a b : List AV) : (AV.fn f a b).cells = [.fn f a b]:=rfl
theorem cells_mp (a : Nat) : (AV.mp a).cells = [.mp a]:=rfl
theorem one_sc (v : Value) : (AV.sc v).one = true:=rfl
theorem one_lst (r : List (List AV)) : (AV.lst r).one = true:=rfl
theorem one_sl (a b c : Nat) : (AV.sl a b c).one = true:=rfl
theorem one_ptr (a b c : Nat) : (AV.ptr a b c).one = true:=rfl
theorem one_pim (r : List (List AV)) (b c : Nat) : (AV.pim r b c).one = true:=rfl
theorem one_fn (f : Fn) (a b : List AV) : (AV.fn f a b).one = true:=rfl
theorem one_mp (a : Nat) : (AV.mp a).one = true:=rfl
theorem oneAll_nil : oneAll [] = true:=rfl
theorem oneAll_cons (c : AV) (cs : List AV) : oneAll (c :: cs) = (c.one && oneAll cs):=rfl
theorem cellsAt_ptr (H : Heap) (id i off n : Nat) : cellsAt H (.ptr id i off) n = match H.get id with
  | some (.box _ cs) => if i = 0 ∧ off + n ≤ cs.length then some ((cs.drop off).take n) else none
  | some (.row _ _ rs) => match rs[i]? with
   | some r => if off + n ≤ r.length then some ((r.drop off).take n) else none
   | none => none
  | _ => none:=rfl
theorem storeA_ptr (H : Heap) (id i off n : Nat) (v : AV) : storeA H (.ptr id i off) n v = if v.cells.length = n ∧ oneAll v.cells = true then
   match H.get id with
   | some (.box false cs) => if i = 0 ∧ off + n ≤ cs.length then some (H.set id (.box false (splice cs off v.cells))) else none
   | some (.row false _ _) => (frzCells H v.cells).bind fun (cs,H) =>
     match H.get id with
     | some (.row false sz rs) => match rs[i]? with
      | some r => if off + n ≤ r.length then some (H.set id (.row false sz (rs.set i (splice r off cs)))) else none
      | none => none
     | _ => none
   | _ => none
   else none:=rfl
def RetP (rs : List ARes) (R : AV) (x : AExit) (e : Env) (H : Heap) : Prop:=leaves x = true ∧ ∃ r0 H',resultsA H e rs = some r0 ∧ frz FZ H r0 = some (R,H')
def RetO (rs : List ARes) (R : AV) (H1 : Heap) (x : AExit) (e : Env) (H : Heap) : Prop:=leaves x = true ∧ resultsA H e rs = some R ∧ H = H1
theorem call_p {ft : FT} {k : FuncId} {first caps args as' : List AV} {H H1 : Heap} {n : Nat} {rs : List ARes} {body : ACode} {R : AV} (hk : ft k = some (.go true n rs body)) (hz : frzCells H (first ++ args ++ caps) = some (as',H1)) (hl : as'.length ≤ n)
  (h : AW ft body (mkE n (ofL as')) (hx Heap.empty []) (RetP rs R)) : callL ft (.fn (.func k) first caps) args H = some (R,H1):=by
 rw [hx_nil] at h
 exact call_pure hk hz hl h
theorem call_o {ft : FT} {k : FuncId} {first caps args : List AV} {H H1 : Heap} {n : Nat} {rs : List ARes} {body : ACode} {R : AV} (hk : ft k = some (.go false n rs body)) (hl : (first ++ args ++ caps).length ≤ n)
  (h : AW ft body (mkE n (ofL (first ++ args ++ caps))) (hx H []) (RetO rs R H1)) : callL ft (.fn (.func k) first caps) args H = some (R,H1):=by
 rw [hx_nil] at h
 exact call_open hk hl h
theorem resT (H : Heap) (n : Nat) (f : Nat → AV) (t : Nat) (rs : List ARes) : (ARes.tmp t :: rs).mapM (resOf H (mkE n f)) = (rs.mapM (resOf H (mkE n f))).map fun vs => (if t < n then f t else .bad) :: vs:=by
 rw [List.mapM_cons]
 simp only [resOf,mkE_get]
 cases rs.mapM (resOf H (mkE n f)) <;> rfl
theorem resC (H : Heap) (n : Nat) (f : Nat → AV) (t m : Nat) (g : Bool) (rs : List ARes) : (ARes.cell t g m :: rs).mapM (resOf H (mkE n f)) = ((cellsAt H (if t < n then f t else .bad) m).bind (pack g)).bind fun v => (rs.mapM (resOf H (mkE n f))).map fun vs => v :: vs:=by
 rw [List.mapM_cons]
 simp only [resOf,mkE_get]
 cases (cellsAt H (if t < n then f t else .bad) m).bind (pack g)
 ·rfl
 ·cases rs.mapM (resOf H (mkE n f)) <;> rfl
theorem resN (H : Heap) (e : Env) : ([] : List ARes).mapM (resOf H e) = some []:=rfl
theorem RetP_iff {rs : List ARes} {R : AV} {x : AExit} {e : Env} {H : Heap} : RetP rs R x e H ↔ leaves x = true ∧ ∃ vs H',rs.mapM (resOf H e) = some vs ∧ frz FZ H (match vs with | [v] => v | vs => .tup vs) = some (R,H'):=by
 unfold RetP resultsA
 constructor
 ·rintro ⟨h,r0,H',h1,h2⟩
  rw [Option.map_eq_some_iff] at h1
  obtain ⟨vs,h1,rfl⟩:=h1
  exact ⟨h,vs,H',h1,h2⟩
 ·rintro ⟨h,vs,H',h1,h2⟩
  exact ⟨h,_,H',by rw [h1]; rfl,h2⟩
def retV : List AV → AV
 | [v] => v
 | vs => .tup vs
theorem takeM {α β : Type} (g : α → β) (l : List α) : (l.map g).take l.length = l.map g:=by
 rw [List.take_of_length_le (by simp)]
theorem retV1 (v : AV) : retV [v] = v:=rfl
theorem retV2 (a b : AV) : retV [a,b] = .tup [a,b]:=rfl
theorem retV3 (a b c : AV) : retV [a,b,c] = .tup [a,b,c]:=rfl
theorem retV0 : retV [] = .tup []:=rfl
theorem frzFZ (H : Heap) (v : AV) : frz FZ H v = frz 24 H v:=rfl
theorem RetP_go {rs : List ARes} {R : AV} {x : AExit} {n : Nat} {f : Nat → AV} {H : Heap} : RetP rs R x (mkE n f) H ↔ leaves x = true ∧ ((rs.mapM (resOf H (mkE n f))).bind fun vs => (frz FZ H (retV vs)).map Prod.fst) = some R:=by
 rw [RetP_iff]
 refine and_congr_right fun _ => ?_
 constructor
 ·rintro ⟨vs,H',h1,h2⟩
  rw [h1,Option.bind_some,Option.map_eq_some_iff]
  exact ⟨_,h2,rfl⟩
 ·intro h
  rw [Option.bind_eq_some_iff] at h
  obtain ⟨vs,h1,h2⟩:=h
  rw [Option.map_eq_some_iff] at h2
  obtain ⟨⟨v,H'⟩,h2,rfl⟩:=h2
  exact ⟨vs,H',h1,h2⟩
theorem ret1 {t n : Nat} {f : Nat → AV} {R : AV} {H : Heap} {x : AExit} (hx : leaves x = true) (ht : t < n) (h : ∃ H',frz FZ H (f t) = some (R,H')) : RetP [.tmp t] R x (mkE n f) H :=
 let ⟨H',h⟩:=h
 RetP_iff.2 ⟨hx,[f t],H',by rw [resT,resN,if_pos ht]; rfl,h⟩
set_option linter.defProp false
def vp:=(⟨@kw_seq,@kw_skip,@kw_exit,@kw_ret,@kw_block,@kw_region,@kw_drawn0,@kw_drawn1,@kn_cons,@kn_nil,@kw_cond,@ko_cons,@ko_nil,@kd_cons,@kd_nil,@thenA_normal,@thenA_exit,@thenA_ret,@blockA_normal,@blockA_ret,@blockA_exit,@GW_none,@GW_tmp,@VW_mov,@VW_pick,@VW_alloc,@VW_box,@VW_build,@VW_bslice,@VW_load,@VW_store,@VW_nilck,@VW_bin,@VW_isnil,@VW_eqs,@VW_eqb,@uw_un,@VW_conv,@VW_stringish,@VW_tostr,@VW_mkfn,@VW_mkslice,@VW_slice,@VW_slstr,@VW_faddr,@VW_field,@VW_iaddr,@VW_index,@VW_ext,@lw_len,@VW_mx2,@VW_mn2,@VW_app,@VW_copy,@VW_mkmap,@VW_look,@VW_mput,@VW_call⟩ : _ ∧ _ ∧ _ ∧ _ ∧ _ ∧ _ ∧ _ ∧ _ ∧ _ ∧ _ ∧ _ ∧ _ ∧ _ ∧ _ ∧ _ ∧ _ ∧ _ ∧ _ ∧ _ ∧ _ ∧ _ ∧ _ ∧ _ ∧ _ ∧ _ ∧ _ ∧ _ ∧ _ ∧ _ ∧ _ ∧ _ ∧ _ ∧ _ ∧ _ ∧ _ ∧ _ ∧ _ ∧ _ ∧ _ ∧ _ ∧ _ ∧ _ ∧ _ ∧ _ ∧ _ ∧ _ ∧ _ ∧ _ ∧ _ ∧ _ ∧ _ ∧ _ ∧ _ ∧ _ ∧ _ ∧ _ ∧ _ ∧ _)
def vq0:=(⟨@decide_true,@decide_false,@GV_true,@GV_false,@GV_skip,@CV_bool,@putA_mkE,@putA_none,@ev_tmp,@ev_const,@ev_func,@upd_at,@ofC_int,@ofC_bool,@ofC_slice,@ofC_str,@ofC_nilF,@ofC_nilP,@ofC_nilM,@toI_sc,@toB_sc,@bin_add,@bin_sub,@bin_mul,@bin_lss,@bin_leq,@bin_gtr,@bin_geq,@bin_eql,@bin_neq,@lenV_lst,@lenV_sl,@lenV_nil,@lenV_str,@lenV_mp,@Nat.zero_add,@Nat.add_zero,@Nat.add_assoc,@Bool.true_eq_false,@Bool.false_eq_true⟩ : _ ∧ _ ∧ _ ∧ _ ∧ _ ∧ _ ∧ _ ∧ _ ∧ _ ∧ _ ∧ _ ∧ _ ∧ _ ∧ _ ∧ _ ∧ _ ∧ _ ∧ _ ∧ _ ∧ _ ∧ _ ∧ _ ∧ _ ∧ _ ∧ _ ∧ _ ∧ _ ∧ _ ∧ _ ∧ _ ∧ _ ∧ _ ∧ _ ∧ _ ∧ _ ∧ _ ∧ _ ∧ _ ∧ _ ∧ _)
def vq1:=(⟨@decide_eq_true_eq,@sids_int,@sids_bool,@sids_str,@sids_nils,@sids_nilf,@sids_lst,@sids_pim,@sids_sl,@compat_nil_l,@compat_nil_r,@compat_ne,@nne1,@nne2,@nne3,@not_false_eq_true,@true_and,@and_true,@Bool.and_true,@Bool.true_and,@hx_next,@hx_putN,@hx_putN0,@hx_getN,@hx_getN0,@hx_setN,@hx_setN0,@Heap.next_set,@hx_pad,@hxe_put,@hxe_get,@hxe_set,@hxe_next,@nAls_nil,@nAls_cons,@Heap.next_empty,@rowsOf_sl,@rowsOf_lst,@rowsOf_nil,@appA_nil⟩ : _ ∧ _ ∧ _ ∧ _ ∧ _ ∧ _ ∧ _ ∧ _ ∧ _ ∧ _ ∧ _ ∧ _ ∧ _ ∧ _ ∧ _ ∧ _ ∧ _ ∧ _ ∧ _ ∧ _ ∧ _ ∧ _ ∧ _ ∧ _ ∧ _ ∧ _ ∧ _ ∧ _ ∧ _ ∧ _ ∧ _ ∧ _ ∧ _ ∧ _ ∧ _ ∧ _ ∧ _ ∧ _ ∧ _ ∧ _)
def vq2:=(⟨@appA_sl,@allSz_nil,@allSz_cons,@unA_not,@Bool.not_true,@Bool.not_false,@Bool.bne_true,@Bool.bne_false,@Bool.not_eq_true',@frzCells_eq,@frz_sl,@frz_agg,@frz_tup,@frz_fn,@frz_ptr,@frz_lst,@frz_pim,@frz_int,@frz_bool,@frz_str,@frz_nils,@frz_nilf,@frzL_nil,@frzL_cons,@ofL_at,@cells_agg,@cells_sc,@cells_lst,@cells_sl,@cells_ptr',@cells_pim',@cells_fn,@cells_mp,@one_sc,@one_lst,@one_sl,@one_ptr,@one_pim,@one_fn,@one_mp⟩ : _ ∧ _ ∧ _ ∧ _ ∧ _ ∧ _ ∧ _ ∧ _ ∧ _ ∧ _ ∧ _ ∧ _ ∧ _ ∧ _ ∧ _ ∧ _ ∧ _ ∧ _ ∧ _ ∧ _ ∧ _ ∧ _ ∧ _ ∧ _ ∧ _ ∧ _ ∧ _ ∧ _ ∧ _ ∧ _ ∧ _ ∧ _ ∧ _ ∧ _ ∧ _ ∧ _ ∧ _ ∧ _ ∧ _ ∧ _)
def vq3:=(⟨@oneAll_nil,@oneAll_cons,@cellsAt_ptr,@storeA_ptr,@and_self,@Nat.le_refl,@mkFQ_s,@compat_rr,@exFQ_loc⟩ : _ ∧ _ ∧ _ ∧ _ ∧ _ ∧ _ ∧ _ ∧ _ ∧ _)
def vr0:=@gt_iff_lt
def vr1:=@ge_iff_le
def vr2:=@PW_known
def vr3:=@PW_ite
def vr4:=@PW_none
def vr5:=@List.drop_zero
def vr6:=@List.drop_succ_cons
def vr7:=@List.take_succ_cons
def vr8:=@List.take_zero
def vr9:=@List.length_cons
def vr10:=@List.length_nil
def vr11:=@List.length_map
def vr12:=@List.map_cons
def vr13:=@List.map_nil
def vr14:=@Option.map_some
def vr15:=@Option.bind_some
def vr16:=@Option.map_none
def vr17:=@Option.bind_none
def vr18:=@if_true
def vr19:=@if_false
def vr20:=@beq_self_eq_true
def vr21:=@ne_eq
def vr22:=@List.nil_append
def vr23:=@List.cons_append
def vr24:=@List.all_nil
def vr25:=@List.all_cons
def vr26:=@List.replicate_succ
def vr27:=@List.replicate_zero
def vr28:=@List.append_nil
def vr29:=@List.getElem?_cons_zero
def vr30:=@List.getElem?_cons_succ
def vr31:=@List.set_cons_zero
def vr32:=@List.set_cons_succ
def vr33:=@List.getD_cons_zero
def vr34:=@List.getD_cons_succ
def vz:=(⟨vq0,vq1,vq2,vq3,@vr0.{0},@vr1.{0},@vr2,@vr3,@vr4,@vr5.{0},@vr6.{0},@vr7.{0},@vr8.{0},@vr9.{0},@vr10.{0},@vr11.{0,0},@vr12.{0,0},@vr13.{0,0},@vr14.{0,0},@vr15.{0,0},@vr16.{0,0},@vr17.{0,0},@vr18.{1},@vr19.{1},@vr20.{0},@vr21.{1},@vr22.{0},@vr23.{0},@vr24.{0},@vr25.{0},@vr26.{0},@vr27.{0},@vr28.{0},@vr29.{0},@vr30.{0},@vr31.{0},@vr32.{0},@vr33.{0},@vr34.{0},@opS.eq_1,@opS.eq_2,@opS.eq_3,@opS.eq_4,@opS.eq_5,@opS.eq_6,@opS.eq_7,@opS.eq_8,@opS.eq_9,@opS.eq_10,@opS.eq_11,@opS.eq_12,@opS.eq_13,@opS.eq_14,@opS.eq_15,@opS.eq_16,@opS.eq_17,@opS.eq_18,@opS.eq_19,@opS.eq_20,@opS.eq_21,@opS.eq_22,@opS.eq_23,@opS.eq_24,@opS.eq_25,@opS.eq_26,@opS.eq_27,@opS.eq_28,@opS.eq_29,@opS.eq_30,@opS.eq_31,@opS.eq_32,@opS.eq_33,@opS.eq_34,@opS.eq_35,@opS.eq_36,@opS.eq_37,@opS.eq_38,@opS.eq_39,@opS.eq_40,@opS.eq_41,@opS.eq_42,@opS.eq_43,@fpS.eq_1,@fpS.eq_2,@fpS.eq_3,@fpS.eq_4,@fpS.eq_5,@fpS.eq_6,@fpS.eq_7,@fpS.eq_8,@fpS.eq_9,@fpS.eq_10,@fpS.eq_11,@fpS.eq_12,@fpS.eq_13,@fpS.eq_14,@fpS.eq_15,@fpS.eq_16,@fpS.eq_17,@fpS.eq_18,@fpS.eq_19,@fpS.eq_20,@extO.eq_1,@extO.eq_2,@okP.eq_1,@pack.eq_1,@pack.eq_2,@nAl.eq_1,@allocA.eq_1,@allocA.eq_2,@allocA.eq_3,@allocA.eq_4,@allocA.eq_5,@allocA.eq_6,@allocA.eq_7,@allocA.eq_8,@allocA.eq_9,@shId.eq_1,@shId.eq_2,@shId.eq_3,@shId.eq_4,@leaves.eq_1,@leaves.eq_2,@leaves.eq_3,@fillA.eq_1,@fillA.eq_2,@fillR.eq_1,@fillR.eq_2,@splice.eq_1⟩ : _ ∧ _ ∧ _ ∧ _ ∧ _ ∧ _ ∧ _ ∧ _ ∧ _ ∧ _ ∧ _ ∧ _ ∧ _ ∧ _ ∧ _ ∧ _ ∧ _ ∧ _ ∧ _ ∧ _ ∧ _ ∧ _ ∧ _ ∧ _ ∧ _ ∧ _ ∧ _ ∧ _ ∧ _ ∧ _ ∧ _ ∧ _ ∧ _ ∧ _ ∧ _ ∧ _ ∧ _ ∧ _ ∧ _ ∧ _ ∧ _ ∧ _ ∧ _ ∧ _ ∧ _ ∧ _ ∧ _ ∧ _ ∧ _ ∧ _ ∧ _ ∧ _ ∧ _ ∧ _ ∧ _ ∧ _ ∧ _ ∧ _ ∧ _ ∧ _ ∧ _ ∧ _ ∧ _ ∧ _ ∧ _ ∧ _ ∧ _ ∧ _ ∧ _ ∧ _ ∧ _ ∧ _ ∧ _ ∧ _ ∧ _ ∧ _ ∧ _ ∧ _ ∧ _ ∧ _ ∧ _ ∧ _ ∧ _ ∧ _ ∧ _ ∧ _ ∧ _ ∧ _ ∧ _ ∧ _ ∧ _ ∧ _ ∧ _ ∧ _ ∧ _ ∧ _ ∧ _ ∧ _ ∧ _ ∧ _ ∧ _ ∧ _ ∧ _ ∧ _ ∧ _ ∧ _ ∧ _ ∧ _ ∧ _ ∧ _ ∧ _ ∧ _ ∧ _ ∧ _ ∧ _ ∧ _ ∧ _ ∧ _ ∧ _ ∧ _ ∧ _ ∧ _ ∧ _ ∧ _ ∧ _ ∧ _ ∧ _ ∧ _ ∧ _)
def rt:=And.intro @RetP_go <| And.intro @resT <| And.intro @resC <| And.intro @resN <| And.intro @retV1 <| And.intro @retV2 <| And.intro @retV3 <| And.intro @retV0 <| And.intro @frzFZ <| And.intro @takeM @Option.some.injEq.{0}
end Go.VI
namespace Go.VI
abbrev Caps:=Nat → Option Nat
def CapK (m : Mp) (κ : Caps) : Prop:=∀ id cn,κ id = some cn → ∃ mb,m id = some mb ∧ mb.cn = cn
theorem CapK.ext {m m' : Mp} {κ : Caps} (h : CapK m κ) (hm : MLe m m') : CapK m' κ:=fun id cn hk => by
 obtain ⟨mb,h1,h2⟩:=h id cn hk
 exact ⟨mb,hm _ _ h1,h2⟩
def kOf (κ : Caps) : AV → Option Nat
 | .sl id _ _ => κ id
 | _ => none
def capW (κ : Caps) (v : AV) (H : Heap) (K : AV → Heap → Prop) : Prop:=∃ id off len cn,v = .sl id off len ∧ κ id = some cn ∧ K (.sc (.int .i64 ((cn - off : Nat) : Int))) H
def appW (κ : Caps) (nid : Nat) (H : Heap) (sz b : Nat) (s : AV) (xs : List (List AV)) (K : AV → Heap → Prop) : Prop :=
 ∃ id off len cn rs,s = .sl id off len ∧ κ id = some cn ∧ H.get id = some (.row false sz rs) ∧ off + len ≤ rs.length ∧ (len + xs.length) * b ≤ 140737488355328 ∧ allSz sz xs = true ∧
  if off + len + xs.length ≤ cn then off + len + xs.length ≤ rs.length ∧ K (.sl id off (len + xs.length)) (H.set id (.row false sz (splice rs (off + len) xs)))
  else K (.sl nid 0 (len + xs.length)) (H.put nid (.row false sz ((rs.drop off).take len ++ xs)))
def isE : AV → Bool
 | .lst [] => true
 | _ => false
def calleeD (ft : FT) : AV → Option ((List AV → Heap → (AV → Heap → Prop) → Prop) × List AV × List AV)
 | .fn (.func k) first caps => match ft k with
  | some (.dprim p) => some (p,first,caps)
  | _ => none
 | _ => none
def callD (ft : FT) (o : Option ((List AV → Heap → (AV → Heap → Prop) → Prop) × List AV × List AV)) (f : AV) (as : List AV) (H : Heap) (K : AV → Heap → Prop) : Prop :=
 match o with
 | some (p,first,caps) => p (first ++ as ++ caps) H K
 | none => KW ft f as H K
def rngW (nid : Nat) (H : Heap) (x : AV) (K : AV → Heap → Prop) : Prop :=
 ∃ id kd es bs ck,x = .mp id ∧ H.get id = some (.mpb kd es bs ck) ∧ K (.ptr nid 0 0) (H.put nid (.itb id ck [] ck))
def nxtW (H : Heap) (x : AV) (K : AV → Heap → Prop) : Prop :=
 ∃ id mid since seen st kd es bs ck,x = .ptr id 0 0 ∧ H.get id = some (.itb mid since seen st) ∧ H.get mid = some (.mpb kd es bs ck) ∧ (∀ b ∈ bs,b < since) ∧ since ≤ st ∧
  (∀ (i : Nat) (k v : AV) (b : Nat),es[i]? = some (k,v) → bs[i]? = some b → b ∉ seen → K (.tup [.sc (.bool true),k,v]) (H.set id (.itb mid since (seen ++ [b]) ck))) ∧
  ((∀ b ∈ bs,b ∈ seen) → K (.tup [.sc (.bool false)]) H)
def entW (H : Heap) (x : AV) (K : AV → Heap → Prop) : Prop :=
 ∃ id mid since seen b kd es bs ck,x = .ptr id 0 0 ∧ H.get id = some (.itb mid since (seen ++ [b]) ck) ∧ H.get mid = some (.mpb kd es bs ck) ∧ bs.Nodup ∧
  ∃ (i : Nat) (k v : AV),es[i]? = some (k,v) ∧ bs[i]? = some b ∧ K (.tup [k,v]) H
def idxE (k : AV) : List (AV × AV) → Nat
 | [] => 0
 | (j,_) :: es => if keyEq k j then 0 else idxE k es + 1
def delW (kd : IntKind) (H : Heap) (m k : AV) (K : AV → Heap → Prop) : Prop :=
 ∃ id es bs ck,m = .mp id ∧ H.get id = some (.mpb (some kd) es bs ck) ∧ keyOk (some kd) k = true ∧ K (.tup []) (H.set id (.mpb (some kd) (es.eraseIdx (idxE k es)) (bs.eraseIdx (idxE k es)) ck))
def dop (ft : FT) (κ : Caps) (nid : Nat) (e : Env) (H : Heap) (op : AOp) (K : AV → Heap → Prop) : Prop :=
 match op with
 | .cap x => if (kOf κ (ev e x)).isSome then capW κ (ev e x) H K else VW ft nid e H (.cap x) K
 | .app sz b s x => if (kOf κ (ev e s)).isSome then ∃ xs,rowsOf H (ev e x) = some xs ∧ appW κ nid H sz b (ev e s) xs K else VW ft nid e H (.app sz b s x) K
 | .appz sz b z s x => if (kOf κ (ev e s)).isSome then ∃ n : Nat,ev e x = .sc (.int .i64 (n : Int)) ∧ n * b ≤ 140737488355328 ∧ appW κ nid H sz b (ev e s) (List.replicate n z) K else VW ft nid e H (.appz sz b z s x) K
 | .isnil neg kd x => if (kd == 0 && isE (ev e x)) = true then ∀ b : Bool,K (.sc (.bool b)) H else VW ft nid e H (.isnil neg kd x) K
 | .call f as => callD ft (calleeD ft (ev e f)) (ev e f) (as.map (ev e)) H K
 | .mrng x => rngW nid H (ev e x) K
 | .mnxt x => nxtW H (ev e x) K
 | .ment x => entW H (ev e x) K
 | .mdel kd m k => delW kd H (ev e m) (ev e k) K
 | o => VW ft nid e H o K
def dOW (ft : FT) (κ : Caps) : List AOper → Env → Heap → (Env → Heap → Prop) → Prop
 | [],e,H,Q => Q e H
 | o :: os,e,H,Q => GW o.guard e (dop ft κ H.next e H o.op fun v H' => dOW ft κ os (putA e o.dst v) H' Q) (dOW ft κ os (putA e o.dst (.tup [])) H Q)
def dx (ft : FT) (κ : Caps) : ACode → Env → Heap → (AExit → Env → Heap → Prop) → Prop
 | .skip,e,H,Q => Q .normal e H
 | .exit id,e,H,Q => Q (.exit id) e H
 | .ret,e,H,Q => Q .ret e H
 | .region os false _,e,H,Q => dOW ft κ os e H (Q .normal)
 | .region os true prs,e,H,Q => AW ft (.region os true prs) e H Q
 | .seq a b,e,H,Q => dx ft κ a e H (thenA (fun e H => dx ft κ b e H Q) Q)
 | .cond c a b,e,H,Q => CV (ev e c) (dx ft κ a e H Q) (dx ft κ b e H Q)
 | .block id c,e,H,Q => dx ft κ c e H (blockA id Q)
 | .loop c,e,H,Q => ∃ I : Nat → Env → Heap → Prop,(∃ n,I n e H) ∧ ∀ n e H,I n e H → dx ft κ c e H (thenA (fun e H => ∃ m,m < n ∧ I m e H) Q)
 | _,_,_,_ => False
section
variable {P : Program}
theorem CfOk_L (hP : P.follows .mixedOrders = true) {ft : FT} (hft : FTOk P ft) : CfOk P (callL ft):=fun f args H H' r h => by
 obtain ⟨n,hn⟩:=callL_some.1 h
 exact calls_of hft (fun c ac hc e e' H H' x h ro hro b0 m F w a hs hb0 hd => (exec_sound hP hft n c ac hc e e' H H' x h ro hro b0 m F w a hs hb0 hd).1) f args H H' r hn
theorem wp_of_OpOk {o : Oper} {op : AOp} (hop : compOp P o.type o.op = some op) {m : Mp} {F : Fz} {H H' : Heap} {w : World} {e : Env} {a : Act} {nid : Nat} {v : AV} {ro : Option Nat} {ds : List Deferred} (hs : Sit P m F H w e a) (hd : a.defers = ds)
  (h : OpOk P o a (alOf nid op) m F w v H') (hle : H.next ≤ H'.next) {next : Act → World → Prop} {Q : Exit → Act → World → Prop}
  (hn : ∀ a' w' m' F',Sit P m' F' H' w' (putA e o.dst v) a' → Ext m F w m' F' w' → a'.defers = ds → OpDom nid op H.next m m' H' → next a' w') : o.wpIn (Wd ro) 0 P a w next Q:=by
 have hsem : o.semAt (Wd ro).round a.eval = execOp a.eval o:=Oper.semAt_eq _ _ _ (fun c hc => by rw [hc] at hop; simp [compOp] at hop)
 obtain ⟨nx,u,m',F',w',hr,hnx,h1,h2,h3,h4⟩:=h
 have h5 : OpDom nid op H.next m m' H':=⟨fun id mb x => (h4 id mb x).imp_right .inl,hle⟩
 have fin : ∀ u,VR m' F' v u → next (a.put o.dst u) w':=fun u hu => hn _ w' m' F' ⟨h2,(hs.env.mono h3.mm h3.ff).put o.dst hu⟩ h3 (by rw [put_defers]; exact hd) h5
 refine ⟨fun _ _ => trivial,?_⟩
 rw [hsem,hr]
 rcases hnx with rfl | ⟨rfl,rfl⟩
 ·exact fin u h1
 ·exact fin undef h1
theorem appW_sound {m : Mp} {F : Fz} {H : Heap} {w : World} {nid : Nat} (hn : Free m H nid) (hI : Inv P m F H w) {κ : Caps} (hκ : CapK m κ) {el : TypeId} {ti : TypeInfo} {z : Value} (i3 : ∀ x ∈ z.cells.toList,isSc x = true) (i4 : z.cells.size = ti.size) {s : AV} {sv : Value} (hs : VR m F s sv) {xs : List (List AV)} {us : List Value} (hul : us.length = xs.length * ti.size) (huone : ∀ u ∈ us,u.oneCell' = true) (hur : RowsR F ti.size xs us.toArray)
  {run : Value → Sem Value} (hR : AppRun P w el ti z xs.length us run) {K : AV → Heap → Prop} (h : appW κ nid H ti.size ti.bytes s xs K) :
  ∃ v H',K v H' ∧ H.next ≤ H'.next ∧ ∃ r m' F' w',(run sv).run P w = .ok r w' ∧ VR m' F' v r ∧ Inv P m' F' H' w' ∧ Ext m F w m' F' w' ∧ Dom (some nid) m m':=by
 obtain ⟨id,off,len,cn,rs,rfl,hk,hg,hle,hb,hall,h⟩:=h
 obtain ⟨mb,scap,hm,rfl,hscap,hslen⟩:=vr_sl hs
 obtain ⟨mb',hm',hcn'⟩:=hκ id cn hk
 rw [hm] at hm'
 cases hm'
 obtain ⟨vs,hcb,hsz,hcn,hfit,hrl,hrc,hF,_,hfull⟩:=hI.blk id mb _ hm hg
 split at h
 ·rename_i hroom
  obtain ⟨hin,h⟩:=h
  have hmul : (off + len + xs.length) * ti.size ≤ mb.cn * ti.size:=Nat.mul_le_mul_right _ (by omega)
  rw [Nat.add_mul,Nat.add_mul] at hmul
  obtain ⟨w',vs',hst,hw⟩:=run_stores P mb.cb (mb.base + (off + len) * mb.sz) us 0 w vs hcb (by rw [hsz,hul,Nat.add_mul]; omega) huone
  simp only [Nat.add_zero] at hw
  obtain ⟨b1,b2⟩:=row_write hI hm hg hur hin hcb hw
  refine ⟨_,_,h,by simp,_,m,F,w',hR.room (some ⟨mb.cb,mb.base + off * mb.sz,none⟩) len scap w' (by omega) (fun a ha => ?_) (by simp),.sl hm hscap (by omega),b1,b2,Dom.refl _ m⟩
  cases ha
  rw [addr_add,hsz,Nat.add_assoc,← Nat.add_mul,← hsz]
  exact hst
 ·rename_i hroom
  have hrs : rowsOf H (.sl id off len) = some ((rs.drop off).take len):=by
   simp only [rowsOf,hg]
   rw [if_pos hle]
  obtain ⟨A2,cap2,he2,hrows2⟩:=rowsOf_sound hI hs hrs
  have hl' : ((rs.drop off).take len).length = len:=by simp; omega
  obtain ⟨os,hol,hocell,hoone,hor,hoa⟩:=hrows2 ti.size (by
   simp only [allSz,List.all_eq_true,beq_iff_eq]
   intro r hr
   obtain ⟨i,hi⟩:=List.getElem?_of_mem hr
   exact hrl _ r (getElem_drop_take hi).1)
  rw [hl'] at he2 hol
  injection he2 with he3 he4 he5
  subst he3
  have hnlen : ((rs.drop off).take len ++ xs).length = len + xs.length:=by simp; omega
  have hg' : len + xs.length ≤ grownCap w (len + xs.length) scap el:=grownCap_ge w _ _ el
  have hrun:=hR.grow (some ⟨mb.cb,mb.base + off * mb.sz,none⟩) len scap os hol hocell (by omega) hb
  generalize grownCap w (len + xs.length) scap el = G at hg' hrun
  have hRR:=(hor.append hur).append (zzR i4 i3 (G - (len + xs.length)) F)
  have hGl : ((rs.drop off).take len ++ xs ++ List.replicate (G - (len + xs.length)) (z.cells.toList.map AV.sc)).length = G:=by
   rw [List.length_append,hnlen,List.length_replicate]; omega
  obtain ⟨m',a1,a2,a3,a4⟩:=newRowA hn hI (wd:=w.drew) rfl rfl rfl rfl ti.size ((rs.drop off).take len ++ xs) ((rs.drop off).take len ++ xs ++ List.replicate (G - (len + xs.length)) (z.cells.toList.map AV.sc)) (os.toArray ++ us.toArray ++ Builtin.zeroCells z.cells (G - (len + xs.length))) el (by rw [hnlen,hGl]; exact hg') List.take_left (by rw [hRR.size]; exact Nat.le_refl _) hRR.rowC
  rw [hnlen,hGl] at a1
  exact ⟨_,_,h,Heap.next_put_le _ _ _,_,m',F,_,hrun,a1,a2,a3,a4⟩
end
end Go.VI
namespace Go.VI
section
variable {P : Program}
def isSp : AOp → Bool
 | .cap _ | .app .. | .appz .. => true
 | _ => false
theorem compOp_sp {ty : TypeId} {op : Op} {ao : AOp} (h : compOp P ty op = some ao) (hb : isSp ao = true) : ∃ c, op = .call c := by
  cases op with
  | call c => exact ⟨c, rfl⟩
  | binOp op t x y ty =>
    exfalso
    simp only [compOp] at h
    have key : ∀ bop, (if isBoolT P t then some (AOp.eqb (isNeq op) x y) else if scalarT P t then some (.bin bop t x y) else match nilable P t with
        | some kd => if isNilC kd y then some (.isnil (isNeq op) kd x) else if isNilC kd x then some (.isnil (isNeq op) kd y) else none
        | none => (flatS P t).map fun ks => .eqs (isNeq op) ks x y) = some ao → False := by
      intro bop h
      split at h
      · cases h; cases hb
      · split at h
        · cases h; cases hb
        · split at h
          · split at h
            · cases h; cases hb
            · split at h
              · cases h; cases hb
              · cases h
          · simp only [Option.map_eq_some_iff] at h
            obtain ⟨_, _, rfl⟩ := h
            cases hb
    cases op <;> first
      | exact key _ h
      | (cases h; cases hb)
  | makeMap t r =>
    exfalso
    cases r with
    | none =>
      simp only [compOp, Option.map_eq_some_iff] at h
      obtain ⟨_, _, rfl⟩ := h
      cases hb
    | some r => simp [compOp] at h
  | build t parts =>
    exfalso
    simp only [compOp, Option.bind_eq_some_iff] at h
    obtain ⟨i, _, h⟩ := h
    split at h
    · split at h
      · simp only [Option.map_eq_some_iff] at h
        obtain ⟨_, _, rfl⟩ := h
        cases hb
      · cases h
    · simp only [Option.map_eq_some_iff] at h
      obtain ⟨_, _, rfl⟩ := h
      cases hb
    · cases h
  | next x b =>
    exfalso
    cases b with
    | true => simp [compOp] at h
    | false =>
      simp only [compOp, Option.some.injEq] at h
      subst h
      cases hb
  | _ =>
    exfalso
    simp only [compOp] at h
    repeat' first
      | (cases h; done)
      | (cases h; cases hb; done)
      | split at h
      | (simp only [Option.bind_eq_some_iff, Option.map_eq_some_iff] at h
         obtain ⟨_, _, h⟩ := h)
      | (subst h; cases hb; done)
      | (obtain ⟨_, h⟩ := h)
theorem sp_cases {ty : TypeId} {c : Call} {ao : AOp} (h : compOp P ty (.call c) = some ao) (hb : isSp ao = true) :
  (∃ x t el,ao = .cap x ∧ c.callee = .builtin .cap ∧ c.args = #[x] ∧ c.argTypes = #[t] ∧ P.underlying t = some (.slice el)) ∨
  (∃ s x t u el i,c.callee = .builtin .append ∧ c.args = #[s,x] ∧ c.argTypes = #[t,u] ∧ elemA P t = some el ∧ infoA P el = some i ∧ ((ao = .app i.1 i.2.1 s x ∧ ∃ el2,P.underlying u = some (.slice el2)) ∨ (ao = .appz i.1 i.2.1 i.2.2 s x ∧ P.underlying u = some (.int .i64)))):=by
 have hargs : ∀ {xs : List Operand},c.args.toList = xs → c.args = xs.toArray:=fun h => by rw [← h]
 have htys : ∀ {xs : List TypeId},c.argTypes.toList = xs → c.argTypes = xs.toArray:=fun h => by rw [← h]
 simp only [compOp] at h
 split at h
 ·cases h; cases hb
 ·cases h
 ·rename_i b hcal
  split at h
  ·split at h <;> first | (cases h; cases hb; done) | (cases h; done)
  ·rename_i s x t u ha ht
   simp only [Option.bind_eq_some_iff] at h
   obtain ⟨el,hel,i,hi,h⟩:=h
   split at h
   ·rename_i el2 hu2
    cases h
    exact .inr ⟨s,x,t,u,el,i,hcal,hargs ha,htys ht,hel,hi,.inl ⟨rfl,el2,hu2⟩⟩
   ·rename_i hu2
    cases h
    exact .inr ⟨s,x,t,u,el,i,hcal,hargs ha,htys ht,hel,hi,.inr ⟨rfl,hu2⟩⟩
   ·cases h
  ·simp only [Option.bind_eq_some_iff] at h
   obtain ⟨el,hel,i,hi,h⟩:=h
   split at h
   ·cases h; cases hb
   ·cases h
  ·rename_i x t ha ht
   split at h
   ·rename_i el hu
    cases h
    exact .inl ⟨x,t,el,rfl,hcal,hargs ha,htys ht,hu⟩
   ·cases h
  ·split at h
   ·cases h; cases hb
   ·cases h
  ·simp only [Option.bind_eq_some_iff,Option.map_eq_some_iff] at h
   obtain ⟨el,hel,i,hi,rfl⟩:=h
   cases hb
  ·split at h
   ·cases h; cases hb
   ·cases h
  ·split at h
   ·cases h; cases hb
   ·cases h
  ·cases h
theorem sp_sound {ft : FT} {κ : Caps} {o : Oper} {op : AOp} (hop : compOp P o.type o.op = some op) (hb : isSp op = true) {m : Mp} {F : Fz} {H : Heap} {w : World} {e : Env} {a : Act} (hκ : CapK m κ) (hs : Sit P m F H w e a) {K : AV → Heap → Prop} (h : dop ft κ H.next e H op K) :
  VW ft H.next e H op K ∨ ∃ v H',K v H' ∧ H.next ≤ H'.next ∧ OpOk P o a (alOf H.next op) m F w v H':=by
 obtain ⟨c,hcc⟩:=compOp_sp hop hb
 rw [hcc] at hop
 rcases sp_cases hop hb with ⟨x,t,el,rfl,h1,h2,h3,h4⟩ | ⟨s,x,t,u,el,i,h1,h2,h3,h4,h5,hcase⟩
 ·simp only [dop] at h
  split at h
  rotate_left
  ·exact .inl h
  obtain ⟨id,off,len,cn,hx,hk,hK⟩:=h
  obtain ⟨mb,cap,hm,he,hcap,hlen⟩:=vr_sl (hx ▸ hs.ev x)
  obtain ⟨mb',hm',hcn⟩:=hκ id cn hk
  rw [hm] at hm'
  cases hm'
  refine .inr ⟨_,H,hK,Nat.le_refl _,OpOk.still (u:=.int .i64 cap) hs.inv (run_cap hcc h1 h2 h3 h4 he) ?_⟩
  have : cn - off = cap:=by omega
  rw [this]
  exact .fz (.sc rfl)
 ·obtain ⟨ti,z,i1,i2,rfl,i3,i4,hpos,hby⟩:=infoA_some h5
  rcases hcase with ⟨rfl,hu2⟩ | ⟨rfl,hu2⟩
  ·simp only [dop] at h
   split at h
   rotate_left
   ·exact .inl h
   obtain ⟨xs,hxs,hW⟩:=h
   obtain ⟨A,cap,hxe,hrows⟩:=rowsOf_sound hs.inv (hs.ev x) hxs
   obtain ⟨us,hul,hucell,huone,hur,hua⟩:=hrows ti.size (by obtain ⟨_,_,_,_,_,_,_,_,_,_,h,_⟩:=hW; exact h)
   obtain ⟨v,H',hK,hle,r,m',F',w',hr,q1,q2,q3,q4⟩:=appW_sound hs.inv.free hs.inv hκ i3 i4 (hs.ev s) hul huone hur (app_run (ty:=o.type) (cap:=cap) (A:=A) (elemA_some h4) hu2 i1 i2 hby hul hucell) hW
   refine .inr ⟨v,H',hK,hle,_,r,m',F',w',?_,.inl rfl,q1,q2,q3,q4⟩
   simp [execOp,hcc,resolve,h1,h2,h3,invoke,builtin,hxe,hr]
  ·simp only [dop] at h
   split at h
   rotate_left
   ·exact .inl h
   obtain ⟨n,hn,hnb,hW⟩:=h
   obtain ⟨he,_⟩:=vr_sc (hn ▸ hs.ev x)
   obtain ⟨u1,u2,u3⟩:=zeros_us i3 i4 hpos n m F
   have hR:=appz_run (P:=P) (w:=w) (ty:=o.type) (elemA_some h4) hu2 i1 i2 i4 (n:=n) hnb hby hpos
   obtain ⟨v,H',hK,hle,r,m',F',w',hr,q1,q2,q3,q4⟩:=appW_sound hs.inv.free hs.inv hκ i3 i4 (hs.ev s) u1 u2 u3 (by rw [List.length_replicate]; exact hR) hW
   refine .inr ⟨v,H',hK,hle,_,r,m',F',w',?_,.inl rfl,q1,q2,q3,q4⟩
   simp [execOp,hcc,resolve,h1,h2,h3,invoke,builtin,he,hr]
theorem vrs_app {m : Mp} {F : Fz} {first args caps : List AV} {vf vs vc : Array Value} (s1 : vf.size = first.length) (s2 : vc.size = caps.length) (v1 : ∀ (i : Nat) (c : AV),first[i]? = some c → VR m F c (vf.getD i undef)) (v2 : ∀ (i : Nat) (c : AV),caps[i]? = some c → VR m F c (vc.getD i undef)) (hv : VRs m F args vs) :
  VRs m F (first ++ args ++ caps) (vf ++ vs ++ vc):=by
 refine ⟨by simp [s1,s2,hv.len],fun i c hc => ?_⟩
 rcases Nat.lt_or_ge i (first.length + args.length) with h1 | h1
 ·rw [List.getElem?_append_left (by simpa using h1)] at hc
  have e1 : (vf ++ vs ++ vc).getD i undef = (vf ++ vs).getD i undef:=by
   simp only [Array.getD_eq_getD_getElem?]
   rw [Array.getElem?_append_left (by simp [s1,hv.len]; exact h1)]
  rw [e1]
  rcases Nat.lt_or_ge i first.length with h2 | h2
  ·rw [List.getElem?_append_left h2] at hc
   have e2 : (vf ++ vs).getD i undef = vf.getD i undef:=by
    simp only [Array.getD_eq_getD_getElem?]
    rw [Array.getElem?_append_left (by omega)]
   rw [e2]
   exact v1 i c hc
  ·rw [List.getElem?_append_right h2] at hc
   have e2 : (vf ++ vs).getD i undef = vs.getD (i - first.length) undef:=by
    simp only [Array.getD_eq_getD_getElem?]
    rw [Array.getElem?_append_right (by omega),s1]
   rw [e2]
   exact hv.val _ c hc
 ·rw [List.getElem?_append_right (by simpa using h1)] at hc
  have e1 : (vf ++ vs ++ vc).getD i undef = vc.getD (i - (first ++ args).length) undef:=by
   simp only [Array.getD_eq_getD_getElem?]
   rw [Array.getElem?_append_right (by simp [s1,hv.len]; exact h1)]
   simp [s1,hv.len]
  rw [e1]
  exact v2 _ c hc
theorem compOp_isnil {ty : TypeId} {op : Op} {neg : Bool} {kd : Nat} {z : Operand} (h : compOp P ty op = some (.isnil neg kd z)) : ∃ bop t x y ty', op = .binOp bop t x y ty' ∧ (bop = .eql ∨ bop = .neq) ∧ nilable P t = some kd ∧ neg = isNeq bop ∧ ((z = x ∧ isNilC kd y = true) ∨ (z = y ∧ isNilC kd x = true)) := by
  cases op with
  | binOp bop t x y ty' =>
    simp only [compOp] at h
    have key : bop = .eql ∨ bop = .neq → (if isBoolT P t then some (AOp.eqb (isNeq bop) x y) else if scalarT P t then some (.bin bop t x y) else match nilable P t with
        | some kd => if isNilC kd y then some (.isnil (isNeq bop) kd x) else if isNilC kd x then some (.isnil (isNeq bop) kd y) else none
        | none => (flatS P t).map fun ks => .eqs (isNeq bop) ks x y) = some (.isnil neg kd z) → ∃ bop' t' x' y' ty2, Op.binOp bop t x y ty' = .binOp bop' t' x' y' ty2 ∧ (bop' = .eql ∨ bop' = .neq) ∧ nilable P t' = some kd ∧ neg = isNeq bop' ∧ ((z = x' ∧ isNilC kd y' = true) ∨ (z = y' ∧ isNilC kd x' = true)) := by
      intro hb h
      split at h
      · cases h
      · split at h
        · cases h
        · split at h
          · rename_i k0 hk0
            split at h
            · rename_i hn
              cases h
              exact ⟨_, _, _, _, _, rfl, hb, hk0, rfl, .inl ⟨rfl, hn⟩⟩
            · split at h
              · rename_i hn
                cases h
                exact ⟨_, _, _, _, _, rfl, hb, hk0, rfl, .inr ⟨rfl, hn⟩⟩
              · cases h
          · simp only [Option.map_eq_some_iff] at h
            obtain ⟨_, _, h⟩ := h
            cases h
    cases bop <;> first
      | exact key (.inl rfl) h
      | exact key (.inr rfl) h
      | (cases h; done)
  | makeMap t r =>
    exfalso
    cases r with
    | none =>
      simp only [compOp, Option.map_eq_some_iff] at h
      obtain ⟨_, _, h⟩ := h
      cases h
    | some r => simp [compOp] at h
  | build t parts =>
    exfalso
    simp only [compOp, Option.bind_eq_some_iff] at h
    obtain ⟨i, _, h⟩ := h
    split at h
    · split at h
      · simp only [Option.map_eq_some_iff] at h
        obtain ⟨_, _, h⟩ := h
        cases h
      · cases h
    · simp only [Option.map_eq_some_iff] at h
      obtain ⟨_, _, h⟩ := h
      cases h
    · cases h
  | next x b =>
    exfalso
    cases b <;> simp [compOp] at h
  | _ =>
    exfalso
    simp only [compOp] at h
    repeat' first
      | (cases h; done)
      | split at h
      | (simp only [Option.bind_eq_some_iff, Option.map_eq_some_iff] at h
         obtain ⟨_, _, h⟩ := h)
      | (obtain ⟨_, h⟩ := h)
theorem sim_nil {m : Mp} {F : Fz} {H : Heap} {w : World} {e : Env} {a : Act} {co : Oper} {al : Option Nat} (hs : Sit P m F H w e a) {op : BinOp} {t ty : TypeId} {x y z : Operand} (ho : co.op = .binOp op t x y ty) (hop : op = .eql ∨ op = .neq) {k : Nat} (ht : nilable P t = some k) (hz : (z = x ∧ isNilC k y = true) ∨ (z = y ∧ isNilC k x = true)) {b : Bool}
  (hk : ofKind k b (a.eval z)) : OpOk P co a al m F w (.sc (.bool (b != (isNeq op)))) H:=by
 refine OpOk.still hs.inv ?_ (.fz (.sc rfl))
 rcases hz with ⟨rfl,hn⟩ | ⟨rfl,hn⟩
 ·have:=run_guard (P:=P) (op:=op) (t:=t) (x:=z) (y:=y) (u:=a.eval z) (v:=nilV k) (ofKind_plain hk).1 (ofKind_plain hk).2 w
  simp only [execOp,ho,isNilC_some (a:=a) hn,Sem.run_bind,this,Result.andThen_ok,(run_nil_bin (w:=w) hop ht hk).1,Sem.run_pure]
 ·have:=run_guard (P:=P) (op:=op) (t:=t) (x:=x) (y:=z) (u:=nilV k) (v:=a.eval z) (nilV_plain k).1 (nilV_plain k).2 w
  simp only [execOp,ho,isNilC_some (a:=a) hn,Sem.run_bind,this,Result.andThen_ok,(run_nil_bin (w:=w) hop ht hk).2,Sem.run_pure]
def isIt : AOp → Bool
 | .mrng _ | .mnxt _ | .ment _ | .mdel .. => true
 | _ => false
theorem compOp_it {ty : TypeId} {op : Op} {ao : AOp} (h : compOp P ty op = some ao) (hb : isIt ao = true) :
    (∃ t x k el, op = .range t x ∧ ao = .mrng x ∧ P.underlying t = some (.map k el)) ∨ (∃ x, op = .next x false ∧ ao = .mnxt x) ∨ (∃ x, op = .entry x ∧ ao = .ment x) ∨
    (∃ c x k t t2 kk el, op = .call c ∧ c.callee = .builtin .delete ∧ c.args = #[x, k] ∧ c.argTypes = #[t, t2] ∧ keyT P t = some (some kk, el) ∧ ao = .mdel kk x k) := by
  cases op with
  | range t x =>
    simp only [compOp] at h
    split at h
    · rename_i k el hu
      cases h
      exact .inl ⟨t, x, k, el, rfl, rfl, hu⟩
    · cases h
  | next x b =>
    cases b with
    | true => simp [compOp] at h
    | false =>
      simp only [compOp, Option.some.injEq] at h
      subst h
      exact .inr (.inl ⟨x, rfl, rfl⟩)
  | entry x =>
    simp only [compOp, Option.some.injEq] at h
    subst h
    exact .inr (.inr (.inl ⟨x, rfl, rfl⟩))
  | call c =>
    have hargs : ∀ {xs : List Operand}, c.args.toList = xs → c.args = xs.toArray := fun h => by rw [← h]
    have htys : ∀ {xs : List TypeId}, c.argTypes.toList = xs → c.argTypes = xs.toArray := fun h => by rw [← h]
    simp only [compOp] at h
    split at h
    · cases h; cases hb
    · cases h
    · rename_i b hcal
      split at h
      · split at h <;> first | (cases h; cases hb; done) | (cases h; done)
      · simp only [Option.bind_eq_some_iff] at h
        obtain ⟨el, hel, i, hi, h⟩ := h
        split at h <;> first | (cases h; cases hb; done) | (cases h; done)
      · simp only [Option.bind_eq_some_iff] at h
        obtain ⟨el, hel, i, hi, h⟩ := h
        split at h <;> first | (cases h; cases hb; done) | (cases h; done)
      · split at h <;> first | (cases h; cases hb; done) | (cases h; done)
      · rename_i x k t t2 ha ht
        split at h
        · rename_i kk el hk
          cases h
          exact .inr (.inr (.inr ⟨c, x, k, t, t2, kk, el, rfl, hcal, hargs ha, htys ht, hk, rfl⟩))
        · cases h
      · simp only [Option.bind_eq_some_iff, Option.map_eq_some_iff] at h
        obtain ⟨el, hel, i, hi, rfl⟩ := h
        cases hb
      · split at h <;> first | (cases h; cases hb; done) | (cases h; done)
      · split at h <;> first | (cases h; cases hb; done) | (cases h; done)
      · cases h
  | binOp op t x y ty =>
    exfalso
    simp only [compOp] at h
    have key : ∀ bop, (if isBoolT P t then some (AOp.eqb (isNeq op) x y) else if scalarT P t then some (.bin bop t x y) else match nilable P t with
        | some kd => if isNilC kd y then some (.isnil (isNeq op) kd x) else if isNilC kd x then some (.isnil (isNeq op) kd y) else none
        | none => (flatS P t).map fun ks => .eqs (isNeq op) ks x y) = some ao → False := by
      intro bop h
      split at h
      · cases h; cases hb
      · split at h
        · cases h; cases hb
        · split at h
          · split at h
            · cases h; cases hb
            · split at h
              · cases h; cases hb
              · cases h
          · simp only [Option.map_eq_some_iff] at h
            obtain ⟨_, _, rfl⟩ := h
            cases hb
    cases op <;> first
      | exact key _ h
      | (cases h; cases hb)
  | makeMap t r =>
    exfalso
    cases r with
    | none =>
      simp only [compOp, Option.map_eq_some_iff] at h
      obtain ⟨_, _, rfl⟩ := h
      cases hb
    | some r => simp [compOp] at h
  | build t parts =>
    exfalso
    simp only [compOp, Option.bind_eq_some_iff] at h
    obtain ⟨i, _, h⟩ := h
    split at h
    · split at h
      · simp only [Option.map_eq_some_iff] at h
        obtain ⟨_, _, rfl⟩ := h
        cases hb
      · cases h
    · simp only [Option.map_eq_some_iff] at h
      obtain ⟨_, _, rfl⟩ := h
      cases hb
    · cases h
  | _ =>
    exfalso
    simp only [compOp] at h
    repeat' first
      | (cases h; done)
      | (cases h; cases hb; done)
      | split at h
      | (simp only [Option.bind_eq_some_iff, Option.map_eq_some_iff] at h
         obtain ⟨_, _, h⟩ := h)
      | (subst h; cases hb; done)
      | (obtain ⟨_, h⟩ := h)
theorem Inv.obj {m : Mp} {F : Fz} {H : Heap} {w w' : World} (hI : Inv P m F H w) {id : Nat} {mb : MB} (hm : m id = some mb) {B0 B : Blk} (hg : H.get id = some B0) (hd0 : B0 ≠ .dead) {o o' : Obj} (h1 : w.heap[mb.cb]? = some o) (hno : ∀ c t f,o ≠ .cells c t f)
  (hw : w'.heap = w.heap.setIfInBounds mb.cb o') (ht : w'.tape = w.tape) (hos : w'.os = w.os) (hout : w'.output = w.output) (hB : BlkR P m F w' mb B) : Inv P m F (H.set id B) w' ∧ Ext m F w m F w':=by
 have hlt:=(hI.lt _ _ hm).2
 have hne : ∀ b,b ≠ mb.cb → w'.heap[b]? = w.heap[b]?:=fun b hb => by
  rw [hw,Array.getElem?_setIfInBounds_ne (Ne.symm hb)]
 refine ⟨hI.next (MLe.refl m) (FLe.refl F) (fun b o v hv => ?_) (fun j mj hj => ?_) (fun j mj B1 hj hB1 => ?_) (fun i j mi mj hi hj li lj e => ?_),⟨MLe.refl m,FLe.refl F,by rw [hw]; simp,ht,hos,hout,fun b _ hb => hne b (fun e => hb id mb hm e.symm),fun _ _ x => .inl x,fun _ _ _ x => .inl x⟩⟩
 ·have hb : b ≠ mb.cb:=fun e => by
   have:=hI.fz b o v hv
   rw [e] at this
   cases h2 : w.heap[mb.cb]? with
   | none => rw [h1] at h2; cases h2
   | some q =>
    rw [h1] at h2
    cases h2
    simp only [World.cell?,h1] at this
    split at this
    ·rename_i hq
     cases hq
     exact hno _ _ _ rfl
    ·cases this
  rw [cell_of_heap (hne b hb)]
  exact hI.fz b o v hv
 ·have:=hI.lt j mj hj
  rw [hw]
  simpa using this
 ·by_cases e : j = id
  ·subst e
   rw [Heap.get_set_self _ (hI.lt _ _ hm).1] at hB1
   cases hB1
   rw [hm] at hj
   cases hj
   exact .inr hB
  ·rw [Heap.get_set_ne _ e] at hB1
   by_cases hd : B1 = .dead
   ·subst hd; exact .inr trivial
   ·exact .inl ⟨hj,hB1,hne _ (cb_other hI hm hj (live_of hg hd0) (live_of hB1 hd) e),fun _ _ hv => hv⟩
 ·exact hI.inj i j mi mj hi hj (live_set li (.inl (live_of hg hd0))) (live_set lj (.inl (live_of hg hd0))) e
theorem run_findIdx {m : Mp} {F : Fz} {kk : IntKind} {kt : TypeId} (hk : P.underlying kt = some (.int kk)) {x : Int} :
  ∀ (es : List (AV × AV)) (ens : List MapEntry) (i : Nat),ens.length = es.length → (∀ (j : Nat) (k v : AV),es[j]? = some (k,v) → ∃ en : MapEntry,ens[j]? = some en ∧ VR m F k en.key ∧ keyOk (some kk) k = true) →
  (idxE (.sc (.int kk x)) es = es.length ∧ Instr.findNow ((P.underlying kt).getD .bool) (.int kk x) ens i = some none) ∨
  (idxE (.sc (.int kk x)) es < es.length ∧ ∃ v,Instr.findNow ((P.underlying kt).getD .bool) (.int kk x) ens i = some (some (i + idxE (.sc (.int kk x)) es,v))):=by
 intro es
 induction es with
 | nil =>
  intro ens i hl h
  have : ens = []:=List.eq_nil_of_length_eq_zero (by simpa using hl)
  subst this
  exact .inl ⟨rfl,rfl⟩
 | cons p es ih =>
  intro ens i hl h
  obtain ⟨k,v⟩:=p
  cases ens with
  | nil => simp at hl
  | cons en ens =>
   obtain ⟨en',h1,h2,h3⟩:=h 0 k v rfl
   cases h1
   obtain ⟨rfl,hkv⟩:=keyOk_val h3 h2
   obtain ⟨y,hy⟩:=hkv
   have hih:=ih ens (i + 1) (by simpa using hl) (fun j k v hj => h (j + 1) k v (by simpa using hj))
   have k1 : keyEq (.sc (.int kk x)) (.sc en.key) = (x == y):=by rw [hy]; rfl
   have k2 : Instr.sameNow ((P.underlying kt).getD .bool) (.int kk x) en.key = some (x == y):=by rw [hy,hk]; simp [Instr.sameNow]
   cases hb : (x == y) with
   | true =>
    rw [hb] at k1 k2
    refine .inr ⟨by simp [idxE,k1],en.val,?_⟩
    simp [Instr.findNow,k2,idxE,k1]
   | false =>
    rw [hb] at k1 k2
    rcases hih with ⟨a1,a2⟩ | ⟨b1,v',b2⟩
    ·exact .inl ⟨by simp [idxE,k1,a1],by simp [Instr.findNow,k2,a2]⟩
    ·refine .inr ⟨by simp [idxE,k1,b1],v',?_⟩
     simp only [Instr.findNow,k2,b2,idxE,k1]
     simp
     omega
theorem it_sound {ft : FT} {κ : Caps} {o : Oper} {op : AOp} (hop : compOp P o.type o.op = some op) (hb : isIt op = true) {m : Mp} {F : Fz} {H : Heap} {w : World} {e : Env} {a : Act} (hs : Sit P m F H w e a) {K : AV → Heap → Prop} (h : dop ft κ H.next e H op K) :
  ∃ v H',K v H' ∧ H.next ≤ H'.next ∧ OpOk P o a (alOf H.next op) m F w v H':=by
 rcases compOp_it hop hb with ⟨t,x,kt,el,ho,rfl,hu⟩ | ⟨x,ho,rfl⟩ | ⟨x,ho,rfl⟩ | ⟨c,x,k,t,t2,kk,el,ho,hc,ha,ht,hkt,rfl⟩
 ·obtain ⟨id,kd,es,bs,ck,hx,hg,hK⟩:=h
  obtain ⟨mb,hm,he⟩:=vr_mp (hx ▸ hs.ev x)
  obtain ⟨ens,h1,h2,h2b,h3⟩:=hs.inv.blk id mb _ hm hg
  obtain ⟨q1,q2⟩:=Inv.push hs.inv.free hs.inv (wd:=w) rfl rfl rfl rfl (.mapIter (some mb.cb) ck #[] ck) (.itb id ck [] ck) 0 0 0 ⟨rfl,mb,mset_le _ hs.inv.free.no _ _ hm,heap_alloc_at⟩
  refine ⟨_,_,hK,Heap.next_put_le _ _ _,_,_,_,F,_,?_,.inl rfl,.ptr (mset_self _ _ _),q1,q2,Dom.mset _ _ _⟩
  simp [execOp,ho,Instr.range,run_under' hu,he,getObj,newObj,Sem.run,h1]
 ·obtain ⟨id,mid,since,seen,st,kd,es,bs,ck,hx,hg,hgm,hold,hst,hK1,hK0⟩:=h
  obtain ⟨mb,hm,he⟩:=vr_ptr (hx ▸ hs.ev x)
  obtain ⟨hbase,mbm,hmm,hit⟩:=hs.inv.blk id mb _ hm hg
  obtain ⟨ens,h1,h2,h2b,h3⟩:=hs.inv.blk mid mbm _ hmm hgm
  have he' : a.eval x = .pointer (some ⟨mb.cb,0,none⟩):=by rw [he,hbase]; simp
  have hent : ∀ (i : Nat) (en : MapEntry),ens[i]? = some en → ∃ k v,es[i]? = some (k,v) ∧ VR m F k en.key ∧ VR m F v en.val ∧ bs[i]? = some en.born:=fun i en hi => by
   have hlt : i < es.length:=by have:=(Array.getElem?_eq_some_iff.1 hi).1; omega
   obtain ⟨en',c1,c2,c3,c4,c5⟩:=h3 i es[i].1 es[i].2 (by rw [List.getElem?_eq_getElem hlt])
   rw [hi] at c1
   cases c1
   exact ⟨_,_,by rw [List.getElem?_eq_getElem hlt],c2,c4,c5⟩
  have hb0 : ∀ en ∈ ens.toList,∃ i : Nat,ens[i]? = some en:=fun en hen => by
   obtain ⟨i,hi⟩:=List.getElem?_of_mem hen
   exact ⟨i,by simpa using hi⟩
  have hold' : ∀ y ∈ ens.toList,y.born < since:=fun y hy => by
   obtain ⟨i,hi⟩:=hb0 y hy
   obtain ⟨_,_,_,_,_,hbb⟩:=hent i y hi
   exact hold _ (List.mem_of_getElem? hbb)
  rcases run_next_at (P:=P) w o.type mb.cb mbm.cb since st seen.toArray ens ck hit h1 hold' hst with ⟨n1,n2⟩ | ⟨en,hen,w1,hw1,hrun⟩
  ·refine ⟨_,H,hK0 (fun b hbm => ?_),Nat.le_refl _,OpOk.still (u:=.tuple #[.bool false]) hs.inv (by simp [execOp,ho,he',n2]) (.tup rfl fun i c hc => ?_)⟩
   ·obtain ⟨i,hi⟩:=List.getElem?_of_mem hbm
    have hlt : i < ens.size:=by have:=(List.getElem?_eq_some_iff.1 hi).1; omega
    obtain ⟨_,_,_,_,_,hbb⟩:=hent i ens[i] (Array.getElem?_eq_getElem hlt)
    rw [hi] at hbb
    cases hbb
    have hemp : leftOf ens seen.toArray = #[]:=Array.eq_empty_of_size_eq_zero n1
    unfold leftOf at hemp
    rw [Array.filter_eq_empty_iff] at hemp
    have:=hemp ens[i] (Array.getElem_mem hlt)
    simpa using this
   ·match i with
    | 0 => simp at hc; subst hc; exact .fz (.sc rfl)
    | i + 1 => simp at hc
  ·have hen' : en ∈ ens.toList ∧ en.born ∉ seen:=by
    unfold leftOf at hen
    simp at hen
    exact ⟨by simpa using hen.1,by simpa using hen.2⟩
   obtain ⟨i,hi⟩:=hb0 en hen'.1
   obtain ⟨k,v,e1,e2,e3,e4⟩:=hent i en hi
   have hh1 : w1.heap = w.heap:=by rcases hw1 with rfl | rfl <;> rfl
   obtain ⟨q1,q2⟩:=hs.inv.obj hm hg (by simp) hit (by intro c t f h; cases h) (o':=.mapIter (some mbm.cb) since (seen.toArray.push en.born) ck) (w':=Go.ChangeMaps.setBlock w1 mb.cb (.mapIter (some mbm.cb) since (seen.toArray.push en.born) ck))
    (B:=.itb mid since (seen ++ [en.born]) ck) (by show w1.heap.setIfInBounds _ _ = _; rw [hh1]) (by rcases hw1 with rfl | rfl <;> rfl) (by rcases hw1 with rfl | rfl <;> rfl) (by rcases hw1 with rfl | rfl <;> rfl)
    ⟨hbase,mbm,hmm,by
     show (w1.heap.setIfInBounds mb.cb _)[mb.cb]? = _
     rw [hh1]
     have:=(hs.inv.lt _ _ hm).2
     simp [this]⟩
   refine ⟨_,_,hK1 i k v en.born e1 e4 hen'.2,by rw [Heap.next_set]; exact Nat.le_refl _,_,_,m,F,_,(by simp [execOp,ho,he',hrun]; rfl),.inl rfl,.tup rfl fun j c hc => ?_,q1,q2,Dom.refl _ m⟩
   match j with
   | 0 => simp at hc; subst hc; exact .fz (.sc rfl)
   | 1 => simp at hc; subst hc; exact e2
   | 2 => simp at hc; subst hc; exact e3
   | j + 3 => simp at hc
 ·obtain ⟨id,mid,since,seen,b,kd,es,bs,ck,hx,hg,hgm,hnd,i,k,v,hi,hbi,hK⟩:=h
  obtain ⟨mb,hm,he⟩:=vr_ptr (hx ▸ hs.ev x)
  obtain ⟨hbase,mbm,hmm,hit⟩:=hs.inv.blk id mb _ hm hg
  obtain ⟨ens,h1,h2,h2b,h3⟩:=hs.inv.blk mid mbm _ hmm hgm
  have he' : a.eval x = .pointer (some ⟨mb.cb,0,none⟩):=by rw [he,hbase]; simp
  obtain ⟨en,c1,c2,c3,c4,c5⟩:=h3 i k v hi
  rw [hbi] at c5
  cases c5
  have hbs : bs = ens.toList.map (·.born):=by
   refine List.ext_getElem? fun j => ?_
   rcases Nat.lt_or_ge j es.length with hj | hj
   ·obtain ⟨en',d1,_,_,_,d5⟩:=h3 j es[j].1 es[j].2 (by rw [List.getElem?_eq_getElem hj])
    rw [d5,List.getElem?_map]
    have : ens.toList[j]? = some en':=by simpa using d1
    rw [this]
    rfl
   ·rw [List.getElem?_eq_none (by omega),List.getElem?_eq_none (by simp; omega)]
  have hmem : en ∈ ens.toList:=List.mem_of_getElem? (i:=i) (by simpa using c1)
  have hr:=run_entry_at (P:=P) w mb.cb mbm.cb since seen.toArray ens ck en (by simpa using hit) h1 hmem (by rw [← hbs]; exact hnd)
  refine ⟨_,H,hK,Nat.le_refl _,OpOk.still (u:=.tuple #[en.key,en.val]) hs.inv (by simp [execOp,ho,he',hr]) (.tup rfl fun j c hc => ?_)⟩
  match j with
  | 0 => simp at hc; subst hc; exact c2
  | 1 => simp at hc; subst hc; exact c4
  | j + 2 => simp at hc
 ·obtain ⟨id,es,bs,ck,hx,hg,hko,hK⟩:=h
  obtain ⟨mb,hm,he⟩:=vr_mp (hx ▸ hs.ev x)
  obtain ⟨ens,h1,h2,h2b,h3⟩:=hs.inv.blk id mb _ hm hg
  obtain ⟨kt,hu,hkk⟩:=keyT_some hkt
  have hund : P.underlying kt = some (.int kk):=by
   rcases hkk with ⟨k',h1',h2'⟩ | ⟨h1',_⟩
   ·cases h1'; exact h2'
   ·cases h1'
  obtain ⟨hke,n,hkv⟩:=keyOk_val hko (hs.ev k)
  rw [hke,hkv] at hK
  have hf:=run_findIdx (m:=m) (F:=F) hund (x:=n) es ens.toList 0 (by simpa using h2) (fun j k v hj => by obtain ⟨en,c1,c2,c3,_⟩:=h3 j k v hj; exact ⟨en,by simpa using c1,c2,c3⟩)
  have hck:=fun b => run_checkKey (P:=P) (w:=w) (kd:=some kk) (kt:=kt) (.inl ⟨kk,rfl,hund⟩) (.int kk n) b
  have fin : ∀ (ens' : Array MapEntry),(Builtin.delete_ #[t,t2] o.type #[.map (some mb.cb),.int kk n]).run P w = .ok (.tuple #[]) { w with heap:=w.heap.setIfInBounds mb.cb (.map ens' ck) } → ens'.size = (es.eraseIdx (idxE (.sc (.int kk n)) es)).length → (bs.eraseIdx (idxE (.sc (.int kk n)) es)).length = (es.eraseIdx (idxE (.sc (.int kk n)) es)).length →
    (∀ (i : Nat) (k v : AV),(es.eraseIdx (idxE (.sc (.int kk n)) es))[i]? = some (k,v) → ∃ en : MapEntry,ens'[i]? = some en ∧ VR m F k en.key ∧ keyOk (some kk) k = true ∧ VR m F v en.val ∧ (bs.eraseIdx (idxE (.sc (.int kk n)) es))[i]? = some en.born) →
    ∃ v H',K v H' ∧ H.next ≤ H'.next ∧ OpOk P o a (alOf H.next (.mdel kk x k)) m F w v H':=fun ens' hr z1 z2 z3 => by
   obtain ⟨q1,q2⟩:=hs.inv.obj hm hg (by simp) h1 (by intro c t f h; cases h) (o':=.map ens' ck) (w':={ w with heap:=w.heap.setIfInBounds mb.cb (.map ens' ck) }) (B:=.mpb (some kk) (es.eraseIdx (idxE (.sc (.int kk n)) es)) (bs.eraseIdx (idxE (.sc (.int kk n)) es)) ck)
    rfl rfl rfl rfl ⟨ens',by
     show (w.heap.setIfInBounds mb.cb _)[mb.cb]? = _
     have:=(hs.inv.lt _ _ hm).2
     simp [this],z1,z2,z3⟩
   refine ⟨_,_,hK,by rw [Heap.next_set]; exact Nat.le_refl _,_,.tuple #[],m,F,_,?_,.inl rfl,.tup rfl (fun i c hc => by simp at hc),q1,q2,Dom.refl _ m⟩
   simp [execOp,ho,resolve,hc,ha,ht,invoke,builtin,he,hkv,hr]
  have hrun : ∀ r,Instr.findNow ((P.underlying kt).getD .bool) (.int kk n) ens.toList 0 = some r → (Builtin.delete_ #[t,t2] o.type #[.map (some mb.cb),.int kk n]).run P w = .ok (.tuple #[]) { w with heap:=w.heap.setIfInBounds mb.cb (.map (match r with | some (i,_) => ens.eraseIdxIfInBounds i | none => ens) ck) }:=fun r hr => by
   have hund2 : P.underlying kt = some ((P.underlying kt).getD .bool):=by rw [hund]; rfl
   have e0 : (#[t,t2] : Array TypeId)[0]? = some t:=rfl
   have e1 : (#[Value.map (some mb.cb),Value.int kk n] : Array Value)[0]? = some (.map (some mb.cb)):=rfl
   have e2 : (#[Value.map (some mb.cb),Value.int kk n] : Array Value)[1]? = some (.int kk n):=rfl
   simp only [Builtin.delete_,e0,e1,e2,Sem.run_bind,run_under' hu,Result.andThen_ok,getObj,Sem.run,h1,Sem.run_pure,hck,Instr.findKey,run_under' hund2,hr]
   cases r with
   | none => simp only [Sem.run_bind,Result.andThen_ok,setObj,Sem.run,h1,Sem.run_pure]
   | some p => simp only [Sem.run_bind,Result.andThen_ok,setObj,Sem.run,h1,Sem.run_pure]
  rcases hf with ⟨a1,a2⟩ | ⟨b1,v,b2⟩
  ·have e1 : es.eraseIdx (idxE (.sc (.int kk n)) es) = es:=List.eraseIdx_of_length_le (by omega)
   have e2 : bs.eraseIdx (idxE (.sc (.int kk n)) es) = bs:=List.eraseIdx_of_length_le (by omega)
   refine fin ens (hrun none a2) (by rw [e1]; exact h2) (by rw [e1,e2]; exact h2b) ?_
   rw [e1,e2]
   exact h3
  ·generalize idxE (.sc (.int kk n)) es = j at *
   rw [Nat.zero_add] at b2
   refine fin (ens.eraseIdxIfInBounds j) (hrun _ b2) ?_ ?_ ?_
   ·rw [List.length_eraseIdx,if_pos b1]
    simp [Array.eraseIdxIfInBounds,show j < ens.size by omega]
    omega
   ·rw [List.length_eraseIdx,List.length_eraseIdx,if_pos b1,if_pos (by omega)]
    omega
   ·intro i k v hi
    have hl : (ens.eraseIdxIfInBounds j)[i]? = (ens.toList.eraseIdx j)[i]?:=by
     simp [Array.eraseIdxIfInBounds,show j < ens.size by omega,← Array.getElem?_toList]
    rw [hl]
    rw [List.getElem?_eraseIdx] at hi ⊢
    rw [List.getElem?_eraseIdx]
    split
    ·rename_i hij
     rw [if_pos hij] at hi
     simpa using h3 i k v hi
    ·rename_i hij
     rw [if_neg hij] at hi
     simpa using h3 (i + 1) k v hi
def dem (ft : FT) (e : Env) : AOp → Bool
 | .isnil _ kd x => kd == 0 && isE (ev e x)
 | .call f _ => (calleeD ft (ev e f)).isSome
 | _ => false
theorem dop_plain {ft : FT} {κ : Caps} {nid : Nat} {e : Env} {H : Heap} {op : AOp} {K : AV → Heap → Prop} (hb : isSp op = false) (hi : isIt op = false) (hm : dem ft e op = false) (h : dop ft κ nid e H op K) : VW ft nid e H op K := by
  cases op <;> first
    | exact h
    | (cases hb; done)
    | (cases hi; done)
    | (simp only [dem] at hm
       simp only [dop, hm, Bool.false_eq_true, if_false] at h
       exact h)
    | (rename_i f as
       simp only [dem] at hm
       simp only [dop] at h
       cases hc : calleeD ft (ev e f) with
       | none => rw [hc] at h; exact h
       | some q => rw [hc] at hm; cases hm)
theorem dop_sound (hP : P.follows .mixedOrders = true) {ft : FT} (hft : FTOk P ft) {κ : Caps} {ops : Array Oper} {o : Oper} {ao : AOper} (hc : compOper P ops o = some ao) {m : Mp} {F : Fz} {H : Heap} {w : World} {e : Env} {a : Act} {ro : Option Nat} {ds : List Deferred} (hκ : CapK m κ) (hs : Sit P m F H w e a) (hd : a.defers = ds)
  {K : AV → Heap → Prop} {K0 : Prop} (h : GW ao.guard e (dop ft κ H.next e H ao.op K) K0) {next : Act → World → Prop} {Q : Exit → Act → World → Prop}
  (hn : ∀ v H' a' w' m' F',K v H' → Sit P m' F' H' w' (putA e ao.dst v) a' → Ext m F w m' F' w' → a'.defers = ds → OpDom H.next ao.op H.next m m' H' → next a' w')
  (hn0 : K0 → ∀ a',Sit P m F H w (putA e ao.dst (.tup [])) a' → a'.defers = ds → next a' w) :
  if Region.wanted o (yielded ops a.tmps) = true then o.wpIn (Wd ro) 0 P a w next Q else next (a.put o.dst undef) w:=by
 have hcf:=CfOk_L hP hft
 obtain ⟨hk,h⟩:=h
 by_cases hw : wantA e ao.guard = true
 ·rw [if_pos hw] at h
  have det : VW ft H.next e H ao.op K → (if Region.wanted o (yielded ops a.tmps) = true then o.wpIn (Wd ro) 0 P a w next Q else next (a.put o.dst undef) w):=fun hv => by
   obtain ⟨v,H',hv,hK⟩:=hv
   refine oper_sound hcf hc (fun _ => hs.inv.free) hs hd (e':=putA e ao.dst v) (H':=H') ?_ fun a' w' m' F' s1 s2 s3 s4 => hn v H' a' w' m' F' hK s1 s2 s3 s4
   unfold oper
   rw [if_pos hk,if_pos hw,hv]
   rfl
  by_cases hb : isSp ao.op = true
  ·have hop : compOp P o.type o.op = some ao.op:=by
    simp only [compOper,Option.some.injEq] at hc
    subst hc
    simp only at hb ⊢
    cases hx : compOp P o.type o.op with
    | none => rw [hx] at hb; cases hb
    | some y => rfl
   rcases sp_sound hop hb hκ hs h with hv | ⟨v,H',hK,hle,hO⟩
   ·exact det hv
   ·have hdst : ao.dst = o.dst:=by
     simp only [compOper,Option.some.injEq] at hc
     subst hc
     rfl
    have hwd : Region.wanted o (yielded ops a.tmps) = true:=by
     simp only [compOper,Option.some.injEq] at hc
     subst hc
     rw [wanted_eq hs.env hk]
     exact hw
    rw [if_pos hwd]
    exact wp_of_OpOk hop hs hd hO hle fun a' w' m' F' s1 s2 s3 s4 => hn v H' a' w' m' F' hK (by rw [hdst]; exact s1) s2 s3 s4
  ·by_cases hi : isIt ao.op = true
   ·have hop : compOp P o.type o.op = some ao.op:=by
     simp only [compOper,Option.some.injEq] at hc
     subst hc
     simp only at hi ⊢
     cases hx : compOp P o.type o.op with
     | none => rw [hx] at hi; cases hi
     | some y => rfl
    obtain ⟨v,H',hK,hle,hO⟩:=it_sound hop hi hs h
    have hdst : ao.dst = o.dst:=by
     simp only [compOper,Option.some.injEq] at hc
     subst hc
     rfl
    have hwd : Region.wanted o (yielded ops a.tmps) = true:=by
     simp only [compOper,Option.some.injEq] at hc
     subst hc
     rw [wanted_eq hs.env hk]
     exact hw
    rw [if_pos hwd]
    exact wp_of_OpOk hop hs hd hO hle fun a' w' m' F' s1 s2 s3 s4 => hn v H' a' w' m' F' hK (by rw [hdst]; exact s1) s2 s3 s4
   by_cases hm : dem ft e ao.op = true
   rotate_left
   ·exact det (dop_plain (by simpa using hb) (by simpa using hi) (by simpa using hm) h)
   have hop : compOp P o.type o.op = some ao.op:=by
    simp only [compOper,Option.some.injEq] at hc
    subst hc
    simp only at hm ⊢
    cases hx : compOp P o.type o.op with
    | none => rw [hx] at hm; cases hm
    | some y => rfl
   have hdst : ao.dst = o.dst:=by
    simp only [compOper,Option.some.injEq] at hc
    subst hc
    rfl
   have hwd : Region.wanted o (yielded ops a.tmps) = true:=by
    simp only [compOper,Option.some.injEq] at hc
    subst hc
    rw [wanted_eq hs.env hk]
    exact hw
   rw [if_pos hwd]
   generalize ao.op = op at *
   cases op with
   | isnil neg kd x =>
    simp only [dem] at hm
    simp only [dop,hm,if_true] at h
    obtain ⟨bop,t,x',y',ty',ho,hbop,hkd,rfl,hz⟩:=compOp_isnil hop
    obtain ⟨b,hkk⟩ : ∃ b,ofKind kd b (a.eval x):=by
     simp only [Bool.and_eq_true,beq_iff_eq] at hm
     obtain ⟨rfl,hm⟩:=hm
     have hv:=hs.ev x
     revert hm hv
     cases ev e x with
     | lst rows =>
      intro hm hv
      have hp:=vr_lst hv
      generalize a.eval x = vx at hp
      cases hp with
      | lst cv hcap hA hr h1 hc hh => exact ⟨_,_,_,_,rfl,rfl⟩
     | _ => intro hm hv; cases hm
    exact wp_of_OpOk hop hs hd (sim_nil hs ho hbop hkd hz hkk) (Nat.le_refl _) fun a' w' m' F' s1 s2 s3 s4 => hn _ H a' w' m' F' (h _) (by rw [hdst]; exact s1) s2 s3 s4
   | call f as =>
    obtain ⟨c,ho,hcal,harg⟩:=compOp_call hop
    simp only [dop] at h
    have hvf:=hs.ev f
    revert h hvf
    simp only [dem] at hm
    revert hm
    cases ev e f with
    | fn fk first caps =>
     intro hm h hvf
     cases fk with
     | func k =>
      simp only [calleeD] at hm h
      cases hk2 : ft k with
      | none => rw [hk2] at hm; cases hm
      | some d =>
       cases d with
       | dprim p =>
        rw [hk2] at h
        simp only [callD] at h
        obtain ⟨vf,vc,hfv,s1,s2,v1,v2⟩:=vr_fn hvf
        have hargs : VRs m F (as.map (ev e)) (c.args.map a.eval):=⟨by rw [← harg]; simp,fun i q hq => by
         rw [← harg,List.getElem?_map,Option.map_eq_some_iff] at hq
         obtain ⟨x,hx,rfl⟩:=hq
         rw [getD_of (v:=a.eval x) (by simpa using ⟨x,by simpa using hx,rfl⟩)]
         exact hs.ev x⟩
        obtain ⟨h1,h2⟩:=hft k _ hk2 _ H K h m F w _ hs.inv (vrs_app s1 s2 v1 v2 hargs)
        have hsem : o.semAt (Wd ro).round a.eval = execOp a.eval o:=Oper.semAt_eq _ _ _ (fun c hc => by rw [hc] at hop; simp [compOp] at hop)
        have hdp : (Wd ro).depth.isSome = true → 1 ≤ 0:=by simp [Wd,Fence.wide]
        have hrun : (execOp a.eval o).run P w = (callFunc k (vf ++ c.args.map a.eval ++ vc)).run P w:=by
         simp [execOp,ho,resolve,hcal,hfv,Deferred.ofValue,invoke]
        refine ⟨fun _ _ => trivial,?_⟩
        rw [hsem,hrun,h1]
        refine ⟨hdp,callsIn_Wd.2 (h2.mono fun en w' hp => ?_)⟩
        obtain ⟨r,H',hK,u,m',F',rfl,g2,g3,g4,g5⟩:=hp
        exact hn r H' _ w' m' F' hK (by rw [hdst]; exact ⟨g3,(hs.env.mono g4.mm g4.ff).put o.dst g2⟩) g4 (by rw [put_defers]; exact hd) ⟨fun id mb x => (g5.dom id mb x).imp_right .inr,g5.le⟩
       | _ => rw [hk2] at hm; cases hm
     | _ => cases hm
    | _ => intro hm; cases hm
   | _ => cases hm
 ·rw [if_neg hw] at h
  have hdst : ao.dst = o.dst:=by
   simp only [compOper,Option.some.injEq] at hc
   subst hc
   rfl
  have hwd : ¬ Region.wanted o (yielded ops a.tmps) = true:=by
   simp only [compOper,Option.some.injEq] at hc
   subst hc
   rw [wanted_eq hs.env hk]
   exact hw
  rw [if_neg hwd]
  rw [hdst] at hn0
  exact hn0 h _ ⟨hs.inv,hs.env.put o.dst (.tup rfl (by simp))⟩ (by rw [put_defers]; exact hd)
theorem dops_sound (hP : P.follows .mixedOrders = true) {ft : FT} (hft : FTOk P ft) {κ : Caps} {ops : Array Oper} {os : List AOper} (hc : ops.toList.mapM (compOper P ops) = some os) {Q : Exit → Act → World → Prop} {ro : Option Nat} {ds : List Deferred} {R : Env → Heap → Prop} : ∀ (n k : Nat) (m : Mp) (F : Fz) (H : Heap) (w : World) (e : Env) (a : Act),
  n + k = ops.size → CapK m κ → Sit P m F H w e a → a.defers = ds → dOW ft κ (os.drop k) e H R → (∀ e' H' a' w' m' F',R e' H' → Sit P m' F' H' w' e' a' → Ext m F w m' F' w' → a'.defers = ds → Grew H.next m m' H' → Q .normal a' w') →
  wpOpsIn (Wd ro) 0 P ops Q (List.range' k n) a w:=by
 obtain ⟨hl,hget⟩:=mapM_get hc
 intro n
 induction n with
 | zero =>
  intro k m F H w e a hnk hκ hs hd h hq
  have : os.drop k = []:=by apply List.drop_eq_nil_of_le; rw [hl]; simp; omega
  rw [this] at h
  exact hq e H a w m F h hs (Ext.refl m F w) hd (Grew.refl m H)
 | succ n ih =>
  intro k m F H w e a hnk hκ hs hd h hq
  have hk : k < ops.size:=by omega
  have hko : k < os.length:=by rw [hl]; simpa using hk
  rw [List.drop_eq_getElem_cons hko] at h
  have hok : ops[k]? = some ops[k]:=Array.getElem?_eq_getElem hk
  have hco:=hget k ops[k] os[k] (by simp [hk]) (List.getElem?_eq_getElem hko)
  rw [List.range'_succ]
  simp only [wpOpsIn,hok]
  simp only [dOW] at h
  have:=dop_sound hP hft hco hκ hs hd h (ro:=ro) (next:=wpOpsIn (Wd ro) 0 P ops Q (List.range' (k + 1) n)) (Q:=Q)
   (fun v H1 a' w' m' F' hK hs' hE hd' hG => ih (k + 1) m' F' H1 w' _ a' (by omega) (hκ.ext hE.mm) hs' hd' hK (fun e'' H'' a'' w'' m'' F'' r'' s'' E'' d'' G'' => hq e'' H'' a'' w'' m'' F'' r'' s'' (hE.trans E'') d'' (hG.grew.trans G'')))
   (fun h0 a' hs' hd' => ih (k + 1) m F H w _ a' (by omega) hκ hs' hd' h0 hq)
  split
  ·rename_i hw
   rw [if_pos hw] at this
   exact this
  ·rename_i hw
   rw [if_neg hw] at this
   exact ⟨fun _ _ => trivial,this⟩
def DPost (P : Program) (b0 : Nat) (m : Mp) (F : Fz) (H : Heap) (w : World) (Q : AExit → Env → Heap → Prop) (X : Exit) (a' : Act) (w' : World) : Prop:=∃ x e' H',Q x e' H' ∧ CodePost P b0 m F H w x e' H' X a' w'
theorem DPost.trans {b0 : Nat} {m m' : Mp} {F F' : Fz} {H H1 : Heap} {w w' : World} {Q : AExit → Env → Heap → Prop} (hE : Ext m F w m' F' w') (hG : Grew H.next m m' H1) {X : Exit} {a'' : Act} {w'' : World} (h : DPost P b0 m' F' H1 w' Q X a'' w'') : DPost P b0 m F H w Q X a'' w'':=by
 obtain ⟨x,e',H',hq,h1,m2,F2,h2,h3,h4,h5⟩:=h
 exact ⟨x,e',H',hq,h1,m2,F2,h2,hE.trans h3,h4,hG.trans h5⟩
theorem dx_sound (hP : P.follows .mixedOrders = true) {ft : FT} (hft : FTOk P ft) {κ : Caps} : ∀ (c : Code) (ac : ACode),compC P c = some ac → ∀ (e : Env) (H : Heap) (Q : AExit → Env → Heap → Prop),dx ft κ ac e H Q →
  ∀ (ro : Option Nat) (b0 : Nat) (m : Mp) (F : Fz) (w : World) (a : Act),CapK m κ → Sit P m F H w e a → b0 ≤ w.heap.size → Marks b0 m w a.defers → c.wpIn (Wd ro) 0 P (DPost P b0 m F H w Q) a w:=by
 intro c
 induction c with
 | skip =>
  intro ac hc e H Q h ro b0 m F w a hκ hs hb0 hd
  simp only [compC,Option.some.injEq] at hc; subst hc
  exact wpIn_skip ⟨_,_,_,h,rfl,m,F,hs,Ext.refl m F w,hd,Grew.refl m H⟩
 | exit id =>
  intro ac hc e H Q h ro b0 m F w a hκ hs hb0 hd
  simp only [compC,Option.some.injEq] at hc; subst hc
  exact wpIn_exit ⟨_,_,_,h,rfl,m,F,hs,Ext.refl m F w,hd,Grew.refl m H⟩
 | ret =>
  intro ac hc e H Q h ro b0 m F w a hκ hs hb0 hd
  simp only [compC,Option.some.injEq] at hc; subst hc
  exact wpIn_ret ⟨_,_,_,h,rfl,m,F,hs,Ext.refl m F w,hd,Grew.refl m H⟩
 | region id ops draw =>
  intro ac hc e H Q h ro b0 m F w a hκ hs hb0 hd
  simp only [compC,Option.bind_eq_some_iff] at hc
  obtain ⟨os,hos,hc⟩:=hc
  cases draw with
  | false =>
   simp only [Bool.false_eq_true,if_false,Option.some.injEq] at hc
   subst hc
   simp only [dx] at h
   apply wpIn_region
   rw [List.range_eq_range']
   exact dops_sound hP hft hos ops.size 0 m F H w e a (by omega) hκ hs rfl (by simpa using h) (fun e' H' a' w' m' F' hq hs' hE hd' hG => ⟨.normal,e',H',hq,rfl,m',F',hs',hE,by rw [hd']; exact hd.ext hE,hG⟩)
  | true =>
   simp only [if_true,Option.map_eq_some_iff] at hc
   obtain ⟨prs,hprs,rfl⟩:=hc
   simp only [dx] at h
   obtain ⟨x,e',H',h1,hq⟩:=h
   obtain ⟨n,hn⟩:=execL_some.1 h1
   refine wpIn_mono (exec_sound hP hft n (.region id ops true) (.region os true prs) (by simp [compC,hos,hprs]) e e' H H' x hn ro (.inr rfl) b0 m F w a hs hb0 hd).1 fun X a' w' hp => ⟨_,_,_,hq,hp⟩
 | seq c1 c2 ih1 ih2 =>
  intro ac hc e H Q h ro b0 m F w a hκ hs hb0 hd
  simp only [compC,Option.bind_eq_some_iff,Option.map_eq_some_iff] at hc
  obtain ⟨a1,h1,a2,h2,rfl⟩:=hc
  simp only [dx] at h
  refine wpIn_seq (wpIn_mono (ih1 a1 h1 e H _ h ro b0 m F w a hκ hs hb0 hd) fun X a' w' hp => ?_)
  obtain ⟨y,e1,H1,hq,hX,m',F',hs',hE,hd',hG⟩:=hp
  cases y with
  | normal =>
   cases hX
   exact wpIn_mono (ih2 a2 h2 e1 H1 Q hq ro b0 m' F' w' a' (hκ.ext hE.mm) hs' (Nat.le_trans hb0 hE.sz) hd') fun X a'' w'' => DPost.trans hE hG
  | exit id =>
   cases hX
   exact ⟨_,_,_,hq,rfl,m',F',hs',hE,hd',hG⟩
  | ret =>
   cases hX
   exact ⟨_,_,_,hq,rfl,m',F',hs',hE,hd',hG⟩
 | cond o c1 c2 ih1 ih2 =>
  intro ac hc e H Q h ro b0 m F w a hκ hs hb0 hd
  simp only [compC,Option.bind_eq_some_iff,Option.map_eq_some_iff] at hc
  obtain ⟨a1,h1,a2,h2,rfl⟩:=hc
  simp only [dx] at h
  obtain ⟨t,ht,h⟩:=h
  have hv:=(vr_sc (ht ▸ hs.ev o)).1
  cases t with
  | true => exact wpIn_cond_true hv (ih1 a1 h1 e H Q h ro b0 m F w a hκ hs hb0 hd)
  | false => exact wpIn_cond_false hv (ih2 a2 h2 e H Q h ro b0 m F w a hκ hs hb0 hd)
 | block id c1 ih1 =>
  intro ac hc e H Q h ro b0 m F w a hκ hs hb0 hd
  simp only [compC,Option.map_eq_some_iff] at hc
  obtain ⟨a1,h1,rfl⟩:=hc
  simp only [dx] at h
  refine wpIn_block (wpIn_mono (ih1 a1 h1 e H _ h ro b0 m F w a hκ hs hb0 hd) fun X a' w' hp => ?_)
  obtain ⟨y,e1,H1,hq,hX,m',F',hs',hE,hd',hG⟩:=hp
  cases y with
  | normal => cases hX; exact ⟨_,_,_,hq,rfl,m',F',hs',hE,hd',hG⟩
  | ret => cases hX; exact ⟨_,_,_,hq,rfl,m',F',hs',hE,hd',hG⟩
  | exit id' =>
   cases hX
   simp only [blockA] at hq
   show if id' = id then _ else _
   by_cases hid : id' = id
   ·subst hid
    rw [if_pos rfl] at hq ⊢
    exact ⟨_,_,_,hq,rfl,m',F',hs',hE,hd',hG⟩
   ·rw [if_neg hid] at hq ⊢
    exact ⟨_,_,_,hq,rfl,m',F',hs',hE,hd',hG⟩
 | loop c1 ih1 =>
  intro ac hc e H Q h ro b0 m F w a hκ hs hb0 hd
  simp only [compC,Option.map_eq_some_iff] at hc
  obtain ⟨a1,h1,rfl⟩:=hc
  simp only [dx] at h
  obtain ⟨I,⟨n,hI⟩,hstep⟩:=h
  refine wp_of_RW ?_
  revert e H m F w a
  induction n using Nat.strongRecOn with
  | ind n ihn =>
   intro e H m F w a hκ hs hb0 hd hI
   refine RW_step (wpIn_mono (ih1 a1 h1 e H _ (hstep n e H hI) ro b0 m F w a hκ hs hb0 hd) fun X a' w' hp => ?_)
   obtain ⟨y,e1,H1,hq,hX,m',F',hs',hE,hd',hG⟩:=hp
   cases y with
   | normal =>
    cases hX
    obtain ⟨k,hk,hIk⟩:=hq
    intro b ks cs hb
    obtain ⟨X,a'',w'',hq,harr⟩:=ihn k hk e1 H1 m' F' w' a' (hκ.ext hE.mm) hs' (Nat.le_trans hb0 hE.sz) hd' hIk b ks cs hb
    exact ⟨X,a'',w'',DPost.trans hE hG hq,harr⟩
   | exit id =>
    cases hX
    exact ⟨_,_,_,hq,rfl,m',F',hs',hE,hd',hG⟩
   | ret =>
    cases hX
    exact ⟨_,_,_,hq,rfl,m',F',hs',hE,hd',hG⟩
 | rangeFunc f ps asg body =>
  intro ac hc e H Q h
  exfalso
  simp only [compC] at hc
  split at hc
  ·simp only [Option.bind_eq_some_iff,Option.map_eq_some_iff] at hc
   obtain ⟨aa,ha,ab,hb,rfl⟩:=hc
   simp only [dx] at h
  ·cases hc
   simp only [dx] at h
 | _ =>
  intro ac hc e H Q h
  simp only [compC,Option.some.injEq] at hc
  subst hc
  simp only [dx] at h
end
end Go.VI
namespace Go.VI
section
variable {P : Program}
def GoFn (P : Program) (k : FuncId) (n : Nat) (rs : List ARes) (body : ACode) : Prop:=∃ fn c,P.funcs[k]? = some fn ∧ (fn.name == "runtime.NumGoroutine") = false ∧ fn.body = some c ∧ compC P c = some body ∧ fn.ntmps = n ∧ fn.results.toList.mapM (compRes P) = some rs
def dCall (ft : FT) (κ : Caps) (n : Nat) (rs : List ARes) (body : ACode) (args : List AV) (H : Heap) (K : AV → Heap → Prop) : Prop :=
 dx ft κ body (enterE n args) H fun x e Hc => leaves x = true ∧ ∃ r,resultsA Hc e rs = some r ∧ K r Hc
theorem dx_calls (hP : P.follows .mixedOrders = true) {ft : FT} (hft : FTOk P ft) {κ : Caps} {k : FuncId} {n : Nat} {rs : List ARes} {body : ACode} (hg : GoFn P k n rs body) {m : Mp} {F : Fz} {H : Heap} {w : World} {args : List AV} {vs : Array Value} (hI : Inv P m F H w) (hκ : CapK m κ) (hall : VRs m F args vs) {K : AV → Heap → Prop} (h : dCall ft κ n rs body args H K) :
  (callFunc k vs).run P w = .ok (.enter k vs) w ∧ Calls P k vs w fun en w' => ∃ r H',K r H' ∧ CallPost P m F H w r H' en w':=by
 obtain ⟨fn,c,g1,g2,g3,g4,g5,g6⟩:=hg
 have hcf : (callFunc k vs).run P w = .ok (.enter k vs) w:=by
  simp only [callFunc,Sem.run_bind,run_program,Result.andThen_ok,g1,g2,g3,Bool.false_eq_true,if_false,Option.isNone_some,Sem.run_pure]
 have henv : EnvR m F (enterE n args) (vs ++ Array.replicate (fn.ntmps - vs.size) undef):=by
  subst g5
  refine ⟨by simp [enterE,hall.len],fun t => ?_⟩
  rcases Nat.lt_or_ge t args.length with h1 | h1
  ·have e1 : (enterE fn.ntmps args).getD t .bad = args[t]:=by
    unfold enterE
    rw [List.getD_eq_getElem?_getD,List.getElem?_append_left h1,List.getElem?_eq_getElem h1]
    rfl
   have e2 : (vs ++ Array.replicate (fn.ntmps - vs.size) undef).getD t undef = vs.getD t undef:=by
    simp only [Array.getD_eq_getD_getElem?]
    rw [Array.getElem?_append_left (by rw [hall.len]; omega)]
   rw [e1,e2]
   exact hall.val t _ (List.getElem?_eq_getElem h1)
  ·have e1 : (enterE fn.ntmps args).getD t .bad = .bad:=by
    unfold enterE
    rw [List.getD_eq_getElem?_getD,List.getElem?_append_right h1,List.getElem?_replicate]
    split <;> rfl
   rw [e1]
   exact .bad _
 refine ⟨hcf,callsIn_Wd (ro:=none) (n:=0).1 (callsIn_of_wp_marks g1 g3 trivial ?_)⟩
 refine wpIn_mono (dx_sound hP hft c body g4 _ H _ h none w.heap.size m F w _ hκ ⟨hI,henv⟩ (Nat.le_refl _) (Marks.nil _ _ _)) fun X a' w' hp => ?_
 obtain ⟨x,e1,H1,⟨hx,r1,hr1,hK⟩,hX,m',F',hs',hE,hd',hG⟩:=hp
 have hout:=leaves_marks (P:=P) (fn:=fn) (tmps:=a'.tmps) (R:=fun en w' => ∃ r H',K r H' ∧ CallPost P m F H w r H' en w') (Nat.le_refl w.heap.size) (fun w2 hI2 hE2 => by
  obtain ⟨u,hu,hr⟩:=results_sound hI2 hs'.env g6 hr1
  exact ⟨u,hu,r1,H1,hK,u,m',F',rfl,hr,hI2,hE2,hG⟩) a'.defers w' hs'.inv hE hd'
 cases x with
 | exit id => simp [leaves] at hx
 | normal => cases hX; exact hout
 | ret => cases hX; exact hout
theorem Inv.kill {m : Mp} {F : Fz} {H : Heap} {w : World} (hI : Inv P m F H w) (id : Nat) : Inv P m F (H.set id .dead) w:=by
 refine hI.next (MLe.refl m) (FLe.refl F) hI.fz (fun j mj hj => by simpa using hI.lt j mj hj) (fun j mj B hj hB => ?_) (fun i j mi mj hi hj li lj e => hI.inj i j mi mj hi hj (live_set li (.inr rfl)) (live_set lj (.inr rfl)) e)
 by_cases e : j = id
 ·subst e
  rw [Heap.get_set_self _ (hI.lt _ _ hj).1] at hB
  cases hB
  exact .inr trivial
 ·rw [Heap.get_set_ne _ e] at hB
  exact .inl ⟨hj,hB,rfl,fun _ _ hv => hv⟩
end
end Go.VI
namespace Go.VI
section
variable {P : Program}
def rowU (H : Heap) : AV → Bool
 | .sl id off len => match H.get id with
  | some (.row false sz rs) => decide (1 < sz) && decide (off + len ≤ rs.length)
  | _ => false
 | _ => false
end
end Go.VI
namespace Go.VI
section
variable {ft : FT} {κ : Caps} {n : Nat} {f : Nat → AV} {K : Heap} {L : List Blk} {Q : AExit → Env → Heap → Prop}
theorem xk_skip : dx ft κ .skip (mkE n f) (hx K L) Q ↔ Q .normal (mkE n f) (hx K L):=Iff.rfl
theorem xk_exit {id : Nat} : dx ft κ (.exit id) (mkE n f) (hx K L) Q ↔ Q (.exit id) (mkE n f) (hx K L):=Iff.rfl
theorem xk_ret : dx ft κ .ret (mkE n f) (hx K L) Q ↔ Q .ret (mkE n f) (hx K L):=Iff.rfl
theorem xk_seq {a b : ACode} : dx ft κ (.seq a b) (mkE n f) (hx K L) Q ↔ dx ft κ a (mkE n f) (hx K L) (thenA (fun e H => dx ft κ b e H Q) Q):=Iff.rfl
theorem xk_block {id : Nat} {c : ACode} : dx ft κ (.block id c) (mkE n f) (hx K L) Q ↔ dx ft κ c (mkE n f) (hx K L) (blockA id Q):=Iff.rfl
theorem xk_region {os : List AOper} {prs : List (Nat × Nat)} : dx ft κ (.region os false prs) (mkE n f) (hx K L) Q ↔ dOW ft κ os (mkE n f) (hx K L) (Q .normal):=Iff.rfl
theorem xk_drawn {os : List AOper} {prs : List (Nat × Nat)} : dx ft κ (.region os true prs) (mkE n f) (hx K L) Q ↔ AW ft (.region os true prs) (mkE n f) (hx K L) Q:=Iff.rfl
theorem xk_cond {c : Operand} {a b : ACode} : dx ft κ (.cond c a b) (mkE n f) (hx K L) Q ↔ CV (ev (mkE n f) c) (dx ft κ a (mkE n f) (hx K L) Q) (dx ft κ b (mkE n f) (hx K L) Q):=Iff.rfl
theorem xo_nil {R : Env → Heap → Prop} : dOW ft κ [] (mkE n f) (hx K L) R ↔ R (mkE n f) (hx K L):=Iff.rfl
theorem xo_cons {d : Option Nat} {op : AOp} {g : Option (Option Nat × Bool)} {os : List AOper} {R : Env → Heap → Prop} : dOW ft κ (⟨d,op,g⟩ :: os) (mkE n f) (hx K L) R ↔
  GW g (mkE n f) (dop ft κ (hx K L).next (mkE n f) (hx K L) op fun v H' => dOW ft κ os (putA (mkE n f) d v) H' R) (dOW ft κ os (putA (mkE n f) d (.tup [])) (hx K L) R):=Iff.rfl
end
section
variable {ft : FT} {κ : Caps} {nid : Nat} {e : Env} {H : Heap} {K : AV → Heap → Prop}
def CP (κ : Caps) (v : AV) (H : Heap) (K : AV → Heap → Prop) : Prop:=if (kOf κ v).isSome then capW κ v H K else PW (match v with
  | .sc (.slice none 0 0) => some (.sc (.int .i64 0),H)
  | _ => none) K
theorem xd_cap (x : Operand) : dop ft κ nid e H (.cap x) K ↔ CP κ (ev e x) H K:=Iff.rfl
theorem CP_congr {v v' : AV} {H' : Heap} (h : v = v') (h2 : H = H') : CP κ v H K = CP κ v' H' K:=by rw [h,h2]
theorem CP_nil : CP κ (.sc (.slice none 0 0)) H K ↔ K (.sc (.int .i64 0)) H:=by
 unfold CP kOf
 simp only [Option.isSome_none,Bool.false_eq_true,if_false]
 exact PW_some
def AQ (κ : Caps) (nid : Nat) (H : Heap) (sz b : Nat) (s : AV) (o : Option (List (List AV))) (K : AV → Heap → Prop) : Prop :=
 if (kOf κ s).isSome then ∃ xs,o = some xs ∧ appW κ nid H sz b s xs K else PW (o.bind fun xs => appA nid H sz b s xs) K
theorem xd_app (sz b : Nat) (s x : Operand) : dop ft κ nid e H (.app sz b s x) K ↔ AQ κ nid H sz b (ev e s) (rowsOf H (ev e x)) K:=Iff.rfl
theorem AQ_congr {sz b nid' : Nat} {s s' : AV} {o o' : Option (List (List AV))} {H' : Heap} (h0 : nid = nid') (h : s = s') (h2 : H = H') (h3 : o = o') : AQ κ nid H sz b s o K = AQ κ nid' H' sz b s' o' K:=by rw [h0,h,h2,h3]
def AZ (κ : Caps) (nid : Nat) (H : Heap) (sz b : Nat) (z : List AV) (s x : AV) (K : AV → Heap → Prop) : Prop :=
 if (kOf κ s).isSome then ∃ n : Nat,x = .sc (.int .i64 (n : Int)) ∧ n * b ≤ 140737488355328 ∧ appW κ nid H sz b s (List.replicate n z) K
 else PW (match x with
  | .sc (.int .i64 n) => if 0 ≤ n ∧ n.toNat * b ≤ 140737488355328 then appA nid H sz b s (List.replicate n.toNat z) else none
  | _ => none) K
theorem xd_appz (sz b : Nat) (z : List AV) (s x : Operand) : dop ft κ nid e H (.appz sz b z s x) K ↔ AZ κ nid H sz b z (ev e s) (ev e x) K:=Iff.rfl
theorem AZ_congr {sz b nid' : Nat} {z : List AV} {s s' x x' : AV} {H' : Heap} (h0 : nid = nid') (h : s = s') (h1 : x = x') (h2 : H = H') : AZ κ nid H sz b z s x K = AZ κ nid' H' sz b z s' x' K:=by rw [h0,h,h1,h2]
theorem xd_mov (x : Operand) : dop ft κ nid e H (.mov x) K ↔ VW ft nid e H (.mov x) K:=Iff.rfl
theorem xd_len (k : Nat) (x : Operand) : dop ft κ nid e H (.len k x) K ↔ VW ft nid e H (.len k x) K:=Iff.rfl
theorem xd_slice (sz : Nat) (x : Operand) (a b c : Option Operand) : dop ft κ nid e H (.slice sz x a b c) K ↔ VW ft nid e H (.slice sz x a b c) K:=Iff.rfl
theorem xd_bin (op : BinOp) (t : TypeId) (x y : Operand) : dop ft κ nid e H (.bin op t x y) K ↔ VW ft nid e H (.bin op t x y) K:=Iff.rfl
theorem xd_copy (sz : Nat) (x y : Operand) : dop ft κ nid e H (.copy sz x y) K ↔ VW ft nid e H (.copy sz x y) K:=Iff.rfl
theorem xd_clr (sz : Nat) (z : List AV) (x : Operand) : dop ft κ nid e H (.clr sz z x) K ↔ PW (opS nid e H (.clr sz z x)) K:=Iff.rfl
theorem xd_un (o : UnOp) (x : Operand) : dop ft κ nid e H (.un o x) K ↔ VW ft nid e H (.un o x) K:=Iff.rfl
theorem xd_call (g : Operand) (l : List Operand) : dop ft κ nid e H (.call g l) K ↔ callD ft (calleeD ft (ev e g)) (ev e g) (l.map (ev e)) H K:=Iff.rfl
theorem callD_congr {o o' : Option ((List AV → Heap → (AV → Heap → Prop) → Prop) × List AV × List AV)} {f f' : AV} {as as' : List AV} {H' : Heap} (h0 : o = o') (h : f = f') (h1 : as = as') (h2 : H = H') : callD ft o f as H K = callD ft o' f' as' H' K:=by rw [h0,h,h1,h2]
theorem callD_none {f : AV} {as : List AV} : callD ft none f as H K ↔ KW ft f as H K:=Iff.rfl
theorem callD_some {p : List AV → Heap → (AV → Heap → Prop) → Prop} {first caps : List AV} {f : AV} {as : List AV} : callD ft (some (p,first,caps)) f as H K ↔ p (first ++ as ++ caps) H K:=Iff.rfl
def NQ (H : Heap) (neg : Bool) (kd : Nat) (v : AV) (K : AV → Heap → Prop) : Prop:=if (kd == 0 && isE v) = true then ∀ b : Bool,K (.sc (.bool b)) H else PW ((isnilA kd v).map fun b => (.sc (.bool (b != neg)),H)) K
theorem xd_isnil (neg : Bool) (kd : Nat) (x : Operand) : dop ft κ nid e H (.isnil neg kd x) K ↔ NQ H neg kd (ev e x) K:=Iff.rfl
theorem NQ_congr {neg : Bool} {kd : Nat} {v v' : AV} {H' : Heap} (h : v = v') (h1 : H = H') : NQ H neg kd v K = NQ H' neg kd v' K:=by rw [h,h1]
theorem NQ_e {neg : Bool} : NQ H neg 0 (.lst []) K ↔ K (.sc (.bool true)) H ∧ K (.sc (.bool false)) H:=⟨fun h => ⟨h true,h false⟩,fun h b => by cases b; exact h.2; exact h.1⟩
theorem xd_bslice (sz : Nat) (z : List AV) (len : Nat) (ps : List (Nat × Operand)) : dop ft κ nid e H (.bslice sz z len ps) K ↔ VW ft nid e H (.bslice sz z len ps) K:=Iff.rfl
theorem xd_box (sz : Nat) (x : Operand) : dop ft κ nid e H (.box sz x) K ↔ VW ft nid e H (.box sz x) K:=Iff.rfl
theorem xd_alloc (cs : List AV) : dop ft κ nid e H (.alloc cs) K ↔ VW ft nid e H (.alloc cs) K:=Iff.rfl
theorem xd_load (g : Bool) (sz : Nat) (x : Operand) : dop ft κ nid e H (.load g sz x) K ↔ VW ft nid e H (.load g sz x) K:=Iff.rfl
theorem xd_store (sz : Nat) (x y : Operand) : dop ft κ nid e H (.store sz x y) K ↔ VW ft nid e H (.store sz x y) K:=Iff.rfl
theorem xd_faddr (o : Nat) (x : Operand) : dop ft κ nid e H (.faddr o x) K ↔ VW ft nid e H (.faddr o x) K:=Iff.rfl
theorem xd_ext (x : Operand) (i : Nat) : dop ft κ nid e H (.ext x i) K ↔ VW ft nid e H (.ext x i) K:=Iff.rfl
end
set_option linter.defProp false
def vx:=(⟨@xk_seq,@xk_skip,@xk_exit,@xk_ret,@xk_block,@xk_region,@xk_drawn,@xk_cond,@xo_cons,@xo_nil,@xd_cap,@xd_app,@xd_appz,@xd_mov,@xd_len,@xd_slice,@xd_bin,@xd_copy,@xd_clr,@xd_un,@xd_call,@CP_nil,@callD_none,@callD_some,@xd_isnil,@NQ_e,@xd_bslice,@xd_box,@xd_alloc,@xd_load,@xd_store,@xd_faddr,@xd_ext⟩ : _ ∧ _ ∧ _ ∧ _ ∧ _ ∧ _ ∧ _ ∧ _ ∧ _ ∧ _ ∧ _ ∧ _ ∧ _ ∧ _ ∧ _ ∧ _ ∧ _ ∧ _ ∧ _ ∧ _ ∧ _ ∧ _ ∧ _ ∧ _ ∧ _ ∧ _ ∧ _ ∧ _ ∧ _ ∧ _ ∧ _ ∧ _ ∧ _)
end Go.VI
set_option maxRecDepth 100000
namespace Go.VI
theorem dx_congr {ft : FT} {κ : Caps} {c : ACode} {e e' : Env} {H H' : Heap} {Q : AExit → Env → Heap → Prop} (h1 : e = e') (h2 : H = H') : dx ft κ c e H Q = dx ft κ c e' H' Q:=by rw [h1,h2]
theorem dOW_congr {ft : FT} {κ : Caps} {os : List AOper} {e e' : Env} {H H' : Heap} {Q : Env → Heap → Prop} (h1 : e = e') (h2 : H = H') : dOW ft κ os e H Q = dOW ft κ os e' H' Q:=by rw [h1,h2]
theorem dop_congr {ft : FT} {κ : Caps} {nid nid' : Nat} {o : AOp} {e e' : Env} {H H' : Heap} {K : AV → Heap → Prop} (h0 : nid = nid') (h1 : e = e') (h2 : H = H') : dop ft κ nid e H o K = dop ft κ nid' e' H' o K:=by rw [h0,h1,h2]
attribute [local congr] AW_congr OW_congr DW_congr NW_congr VW_congr GW_congr PW_congr KW_congr ite_congr' GV_congr CV_congr dx_congr dOW_congr dop_congr CP_congr AQ_congr AZ_congr callD_congr NQ_congr
theorem opI1 (e : Env) (x : Operand) : optI e (some x) = (toI (ev e x)).map some:=rfl
theorem opI0 (e : Env) : optI e none = some none:=rfl
end Go.VI
namespace Go.VI
attribute [local congr] AW_congr OW_congr DW_congr NW_congr VW_congr GW_congr PW_congr KW_congr ite_congr' GV_congr CV_congr dx_congr dOW_congr dop_congr CP_congr AQ_congr AZ_congr callD_congr NQ_congr
def vRows (H : Heap) (id : Nat) : AV → Option (List (List AV))
 | .sc (.slice none 0 0) => some []
 | .lst [] => some []
 | .lst ((c :: cs) :: r) => some ((c :: cs) :: r)
 | .sl j off l => if j ≠ id ∧ rowU H (.sl j off l) = true then rowsOf H (.sl j off l) else none
 | _ => none
theorem vRows_rows {H : Heap} {id : Nat} {v : AV} {xs : List (List AV)} (h : vRows H id v = some xs) : rowsOf H v = some xs:=by
 unfold vRows at h
 split at h
 ·cases h; rfl
 ·cases h; rfl
 ·cases h; rfl
 ·split at h
  ·exact h
  ·cases h
 ·cases h
theorem k_prim {ft : FT} {k : Nat} {p : List AV → Heap → Option (AV × Heap)} (hk : ft k = some (.prim p)) {args : List AV} {H H' : Heap} {r : AV} (h : p args H = some (r,H')) (hl : H.next ≤ H'.next) {Q : AV → Heap → Prop} : KW ft (.fn (.func k) [] []) args H Q ↔ Q r H':=by
 refine KW_of ?_
 rw [callL_fn]
 unfold callF
 simp only [List.nil_append,List.append_nil,hk,h,Option.bind_some,if_pos hl]
end Go.VI
namespace Go.VI
attribute [local congr] AW_congr OW_congr DW_congr NW_congr VW_congr GW_congr PW_congr KW_congr ite_congr' GV_congr CV_congr dx_congr dOW_congr dop_congr CP_congr AQ_congr AZ_congr callD_congr NQ_congr
theorem res_tmp {H : Heap} {n t : Nat} {f : Nat → AV} (ht : t < n) : resultsA H (mkE n f) [.tmp t] = some (f t):=by
 simp only [resultsA,List.mapM_cons,List.mapM_nil,resOf]
 rw [mkE_get,if_pos ht]
 rfl
end Go.VI
namespace Go.VI
section
variable {P : Program}
def FrzTo (r : AV) (r2 : AV) (H2 : Heap) : Prop:=∃ H3,frz FZ H2 r2 = some (r,H3)
def SlD (ft : FT) (n : Nat) (rs : List ARes) (body : ACode) (p : List AV → Option AV) : Prop:=∀ args r,p args = some r → dCall ft (fun _ => none) n rs body args Heap.empty (FrzTo r)
theorem slD_ok (hP : P.follows .mixedOrders = true) {ft : FT} (hft : FTOk P ft) {k : FuncId} {n : Nat} {rs : List ARes} {body : ACode} (hg : GoFn P k n rs body) {p : List AV → Option AV} (hp : SlD ft n rs body p) : PPrimOk P k p:=by
 intro args r h m F H w vs hI hl hv
 have hI0 : Inv P (fun _ => none) F Heap.empty w:=⟨hI.fz,fun _ _ h => (by cases h),fun _ _ _ h _ => (by cases h),fun _ _ _ _ h _ _ _ _ => (by cases h)⟩
 obtain ⟨h1,h2⟩:=dx_calls hP hft hg hI0 (κ:=fun _ => none) (fun id cn h => by cases h) (args:=args) (vs:=vs) ⟨hl,fun i c hc => .fz (hv i c hc)⟩ (hp args r h)
 refine .inl ⟨h1,h2.mono fun en w2 ⟨r1,Hc,⟨Hc2,hz2⟩,u,m',F',he,hr,hI2,hE2,hG⟩ => ?_⟩
 obtain ⟨F2,o2,hvf⟩:=(frz_sound FZ).1 Hc Hc2 F' r1 r u hz2 hI2 hr
 have hold : ∀ b,b < w.heap.size → w2.heap[b]? = w.heap[b]?:=fun b hb => hE2.blk b hb (fun _ _ h => by cases h)
 have hmn : ∀ id mb,m' id = some mb → w.heap.size ≤ mb.cb:=fun id mb h => by
  rcases hE2.mn id mb h with h | h | ⟨_,_,h,_⟩
  ·cases h
  ·exact h
  ·cases h
 have hF2 : ∀ b o v,F2 b o = some v → F b o = some v ∨ w.heap.size ≤ b:=fun b o v hv => by
  rcases o2.fr.new b o v hv with h | ⟨id,mb,h,rfl⟩
  ·rcases hE2.fn b o v h with h | h | ⟨_,_,h,_⟩
   ·exact .inl h
   ·exact .inr h
   ·cases h
  ·exact .inr (hmn id mb h)
 have hF12 : FLe F F2:=hE2.ff.trans o2.fr.le
 have hIm : Inv P m F2 H w2:=by
  refine hI.next (MLe.refl m) hF12 o2.inv.fz (fun id mb h => ?_) (fun id mb B h hB => ?_) hI.inj
  ·have:=hI.lt id mb h
   have:=hE2.sz
   omega
  ·have hlt:=(hI.lt id mb h).2
   refine .inl ⟨h,hB,hold _ hlt,fun o v hv => ?_⟩
   rcases hF2 _ o v hv with h | h
   ·exact h
   ·omega
 have hEm : Ext m F w m F2 w2:=⟨MLe.refl m,hF12,hE2.sz,hE2.tape,hE2.os,hE2.out,fun b hb _ => hold b hb,fun _ _ h => .inl h,fun b o v hv => by
  rcases hF2 b o v hv with h | h
  ·exact .inl h
  ·exact .inr (.inl h)⟩
 exact ⟨u,m,F2,he,.fz hvf,hIm,hEm,⟨fun _ _ h => .inl h,Nat.le_refl _⟩⟩
end
def cloD (sz b : Nat) (args : List AV) (H : Heap) (K : AV → Heap → Prop) : Prop :=
 match args with
 | [.lst []] => K (.sc (.slice none 0 0)) H ∧ K .emp (H.put H.next .dead)
 | [v] => ∃ xs,vRows H H.next v = some xs ∧ xs ≠ [] ∧ xs.length * b ≤ 140737488355328 ∧ allSz sz xs = true ∧ K (.sl (H.next + 1) 0 xs.length) (hx H [.dead,.row false sz xs])
 | _ => False
end Go.VI
namespace Go.VI
attribute [local congr] AW_congr OW_congr DW_congr NW_congr VW_congr GW_congr PW_congr KW_congr ite_congr' GV_congr CV_congr dx_congr dOW_congr dop_congr CP_congr AQ_congr AZ_congr callD_congr NQ_congr
def cloC (sz b : Nat) (z : List AV) : ACode:=(.seq (.region [⟨(some 2),(.mov (.const (.slice none 0 0))),none⟩] false []) (.seq (.seq (.region [⟨(some 3),(.mov (.tmp 0)),none⟩,⟨(some 4),(.isnil false 0 (.tmp 3)),none⟩] false []) (.cond (.tmp 4) (.seq (.region [⟨(some 2),(.mov (.const (.slice none 0 0))),none⟩] false []) .ret) .skip)) (.seq (.region [⟨(some 5),(.bslice sz z 0 []),none⟩,⟨(some 6),(.mov (.tmp 0)),none⟩,⟨(some 7),(.app sz b (.tmp 5) (.tmp 6)),none⟩,⟨(some 2),(.mov (.tmp 7)),none⟩] false []) .ret)))
theorem AQ_det {nid sz b : Nat} {H : Heap} {s : AV} {o : Option (List (List AV))} {K : AV → Heap → Prop} : AQ (fun _ => none) nid H sz b s o K ↔ PW (o.bind fun xs => appA nid H sz b s xs) K:=by
 unfold AQ
 rw [if_neg]
 unfold kOf
 split <;> simp
theorem NQ_det {H : Heap} {neg : Bool} {v : AV} {K : AV → Heap → Prop} {b : Bool} (h : isE v = false) (h2 : isnilA 0 v = some b) : NQ H neg 0 v K ↔ K (.sc (.bool (b != neg))) H:=by
 unfold NQ
 rw [h,h2]
 simp only [Bool.and_false,Bool.false_eq_true,if_false,Option.map_some]
 exact PW_some
theorem rows_hx {H : Heap} {v : AV} {xs : List (List AV)} (L : List Blk) (h : rowsOf H v = some xs) : rowsOf (hx H L) v = some xs:=by
 unfold rowsOf at h ⊢
 split at h
 ·exact h
 ·exact h
 ·split at h
  ·rename_i hg
   simp only [hx_get_old H L _ (Heap.get_lt hg),hg]
   exact h
  ·cases h
 ·cases h
section
variable {P : Program} {ft : FT} {sz b : Nat} {z : List AV}
theorem clo_dx {args : List AV} {H : Heap} {K : AV → Heap → Prop} (h : cloD sz b args H K) : dCall ft (fun _ => none) 8 [.tmp 2] (cloC sz b z) args H K:=by
 unfold cloD at h
 split at h
 ·obtain ⟨h1,h2⟩:=h
  unfold dCall
  rw [enterE_mkE _ _ (by simp),← hx_nil H]
  rw [← hx_nil H] at h1
  unfold cloC
  have hx1 : H.put H.next .dead = hx H [.dead]:=by
   have:=hx_put0 H [] .dead
   rw [hx_nil] at this
   rw [this]
   rfl
  rw [hx1] at h2
  simp only [vx,↓vp,vz,Nat.reduceLT,Nat.reduceEqDiff,Nat.reduceLeDiff,Nat.reduceAdd,Nat.reduceSub,Nat.reduceMul,Int.reduceBEq,Int.reduceBNe,Int.reduceLT,Int.reduceLE,Int.reduceEq,reduceIte,reduceCtorEq,AQ_det,appA_emp]
  refine ⟨⟨_,res_tmp (by decide),?_⟩,⟨_,res_tmp (by decide),?_⟩⟩
  ·simp only [↓vp,vz,Nat.reduceLT,Nat.reduceEqDiff,Nat.reduceLeDiff,Nat.reduceAdd,Nat.reduceSub,Nat.reduceMul,Int.reduceBEq,Int.reduceBNe,Int.reduceLT,Int.reduceLE,Int.reduceEq,reduceIte,reduceCtorEq]
   exact h1
  ·simp only [↓vp,vz,Nat.reduceLT,Nat.reduceEqDiff,Nat.reduceLeDiff,Nat.reduceAdd,Nat.reduceSub,Nat.reduceMul,Int.reduceBEq,Int.reduceBNe,Int.reduceLT,Int.reduceLE,Int.reduceEq,reduceIte,reduceCtorEq]
   exact h2
 ·rename_i v _
  obtain ⟨xs,hxs,h0,hb,ha,hK⟩:=h
  unfold dCall
  rw [enterE_mkE _ _ (by simp),← hx_nil H]
  unfold cloC
  have hv : isE v = false ∧ isnilA 0 v = some false:=by
   unfold vRows at hxs
   split at hxs
   ·cases hxs; exact absurd rfl h0
   ·cases hxs; exact absurd rfl h0
   ·exact ⟨rfl,rfl⟩
   ·exact ⟨rfl,rfl⟩
   ·cases hxs
  have nq:=fun H' K' => NQ_det (H:=H') (neg:=false) (K:=K') hv.1 hv.2
  have hr : ∀ L,rowsOf (hx H L) v = some xs:=fun L => rows_hx L (vRows_rows hxs)
  have hl : ¬ xs.length = 0:=fun e => h0 (List.eq_nil_of_length_eq_zero e)
  have d1 : (xs.length = 0) = False:=eq_false hl
  have d2 : (xs.length * b ≤ 140737488355328) = True:=eq_true hb
  simp only [vx,↓vp,vz,Nat.reduceLT,Nat.reduceEqDiff,Nat.reduceLeDiff,Nat.reduceAdd,Nat.reduceSub,Nat.reduceMul,Int.reduceBEq,Int.reduceBNe,Int.reduceLT,Int.reduceLE,Int.reduceEq,reduceIte,reduceCtorEq,AQ_det,appA_emp,nq,hr,ha,d1,d2]
  refine ⟨_,res_tmp (by decide),?_⟩
  simp only [↓vp,vz,Nat.reduceLT,Nat.reduceEqDiff,Nat.reduceLeDiff,Nat.reduceAdd,Nat.reduceSub,Nat.reduceMul,Int.reduceBEq,Int.reduceBNe,Int.reduceLT,Int.reduceLE,Int.reduceEq,reduceIte,reduceCtorEq]
  exact hK
 ·exact h.elim
theorem ft0_ok : FTOk P (fun _ => none):=fun k d h => by cases h
def cloP (sz b : Nat) (args : List AV) (H : Heap) : Option (AV × Heap) :=
 match args with
 | [.sc (.slice none 0 0)] => some (.sc (.slice none 0 0),H)
 | [.lst []] => some (.emp,H.pad 1)
 | [v] => (vRows H H.next v).bind fun xs => if xs ≠ [] ∧ xs.length * b ≤ 140737488355328 ∧ allSz sz xs = true then some (.sl (H.next + 1) 0 xs.length,hx H [.dead,.row false sz xs]) else none
 | _ => none
theorem cloP_ok (hP : P.follows .mixedOrders = true) {k : FuncId} (hg : GoFn P k 8 [.tmp 2] (cloC sz b z)) : PrimOk P k (cloP sz b):=by
 intro args H H' r h m F w vs hI hv
 have go : ∀ K,dCall (fun _ => none) (fun _ => none) 8 [.tmp 2] (cloC sz b z) args H K → (callFunc k vs).run P w = .ok (.enter k vs) w ∧ Calls P k vs w fun en w' => ∃ r H',K r H' ∧ CallPost P m F H w r H' en w' :=
  fun K hK => dx_calls hP ft0_ok hg hI (κ:=fun _ => none) (fun id cn h => by cases h) hv hK
 unfold cloP at h
 split at h
 ·cases h
  obtain ⟨h1,h2⟩:=go (fun r2 H2 => r2 = .sc (.slice none 0 0) ∧ H2 = H) (by
   unfold dCall
   rw [enterE_mkE _ _ (by simp),← hx_nil H]
   unfold cloC
   have nq:=fun H' K' => NQ_det (H:=H') (neg:=false) (K:=K') (v:=.sc (.slice none 0 0)) rfl rfl
   simp only [vx,↓vp,vz,Nat.reduceLT,Nat.reduceEqDiff,Nat.reduceLeDiff,Nat.reduceAdd,Nat.reduceSub,Nat.reduceMul,Int.reduceBEq,Int.reduceBNe,Int.reduceLT,Int.reduceLE,Int.reduceEq,reduceIte,reduceCtorEq,AQ_det,nq]
   refine ⟨_,res_tmp (by decide),?_⟩
   simp only [↓vp,vz,Nat.reduceLT,Nat.reduceEqDiff,Nat.reduceLeDiff,Nat.reduceAdd,Nat.reduceSub,Nat.reduceMul,Int.reduceBEq,Int.reduceBNe,Int.reduceLT,Int.reduceLE,Int.reduceEq,reduceIte,reduceCtorEq])
  refine .inl ⟨h1,h2.mono fun en w' ⟨r2,H2,⟨h3,h4⟩,hc⟩ => ?_⟩
  subst h3 h4
  exact hc
 ·cases h
  obtain ⟨h1,h2⟩:=go (fun r2 H2 => (r2 = .sc (.slice none 0 0) ∧ H2 = H) ∨ (r2 = .emp ∧ H2 = H.put H.next .dead)) (clo_dx ⟨.inl ⟨rfl,rfl⟩,.inr ⟨rfl,rfl⟩⟩)
  refine .inl ⟨h1,h2.mono fun en w' ⟨r2,H2,hK,u,m',F',he,q1,q2,q3,q4⟩ => ?_⟩
  rcases hK with ⟨rfl,rfl⟩ | ⟨rfl,rfl⟩
  ·obtain ⟨rfl,_⟩:=vr_sc q1
   exact ⟨_,m',F',he,.fz (.emp none),q2.pad 1,q3,⟨q4.dom,by rw [Heap.next_pad]; omega⟩⟩
  ·have e1 : H.put H.next .dead = H.pad 1:=by
    have:=hx_put0 H [] .dead
    rw [hx_nil] at this
    rw [this]
    simp [hx,Heap.pad]
   rw [e1] at q2 q4
   exact ⟨_,m',F',he,q1,q2,q3,q4⟩
 ·rename_i v _ _
  simp only [Option.bind_eq_some_iff] at h
  obtain ⟨xs,hxs,h⟩:=h
  split at h
  rotate_left
  ·cases h
  rename_i hc
  cases h
  obtain ⟨h1,h2⟩:=go (fun r2 H2 => r2 = .sl (H.next + 1) 0 xs.length ∧ H2 = hx H [.dead,.row false sz xs]) (clo_dx (by
   unfold cloD
   split
   ·rename_i e; cases e; cases hxs; exact absurd rfl hc.1
   ·rename_i e; cases e; exact ⟨xs,hxs,hc.1,hc.2.1,hc.2.2,rfl,rfl⟩
   ·rename_i e; exact e _ rfl))
  exact .inl ⟨h1,h2.mono fun en w' ⟨r2,H2,⟨h3,h4⟩,hc⟩ => by rw [← h3,← h4]; exact hc⟩
 ·cases h
end
end Go.VI
namespace Go.VI
def Sub (ft ft' : FT) : Prop:=∀ k d,ft k = some d → ft' k = some d
theorem pureV_sub {ft ft' : FT} (hs : Sub ft ft') {f : AV} {args : List AV} {ex : EX} {H : Heap} {r : AV × Heap} (h : callV ft ex f args H = some r) : pureV ft' f args = pureV ft f args:=by
 unfold callV at h
 unfold pureV
 split at h
 ·rename_i k first caps
  have : isPure ft' k = isPure ft k:=by
   unfold isPure
   cases hk : ft k with
   | none => unfold callF at h; rw [hk] at h; cases h
   | some d => rw [hs k d hk]
  simp only [this]
 ·rfl
 ·cases h
theorem isExt_sub {ft ft' : FT} (hs : Sub ft ft') {f : AV} {args : List AV} {ex : EX} {H : Heap} {r : AV × Heap} (h : callV ft ex f args H = some r) (as' : List AV) : pureV ft' (.tup [f]) as' = pureV ft (.tup [f]) as':=by
 unfold callV at h
 split at h
 ·rename_i k first caps
  have : isExt ft' k = isExt ft k:=by
   unfold isExt
   cases hk : ft k with
   | none => unfold callF at h; rw [hk] at h; cases h
   | some d => rw [hs k d hk]
  simp only [pureV,this]
 ·rfl
 ·cases h
theorem isGo_sub {ft ft' : FT} (hs : Sub ft ft') {f : AV} (h : isGo ft f = true) : isGo ft' f = true:=by
 unfold isGo at h ⊢
 split at h
 ·rename_i k first caps
  cases hk : ft k with
  | none => rw [hk] at h; cases h
  | some d => rw [hs k d hk]; rw [hk] at h; exact h
 ·cases h
theorem runs_le {cf cf' : CF} (h : CLe cf cf') {pv pv' : AV → List AV → FP} (hp : ∀ f args H r,cf f args H = some r → pv' f args = pv f args ∧ pv' (.tup [f]) args = pv (.tup [f]) args) : ∀ (os : List AOper) (nid : Nat) (e : Env) (H : Heap) (r : List FQ × Env × Heap),runs cf pv nid os e H = some r → runs cf' pv' nid os e H = some r
 | [],nid,e,H,r,hr => hr
 | o :: os,nid,e,H,r,hr => by
  simp only [runs,Option.bind_eq_some_iff,Option.map_eq_some_iff] at hr ⊢
  obtain ⟨p,hp1,q,hq,hr⟩:=hr
  refine ⟨p,oper_mono h hp1,q,runs_le h hp os _ _ _ _ hq,?_⟩
  have : fqO pv' nid e o H p.2 = fqO pv nid e o H p.2:=by
   by_cases hw : wantA e o.guard = true
   ·obtain ⟨d,op,g⟩:=o
    cases op with
    | call f args =>
     unfold oper at hp1
     split at hp1
     ·rw [Option.map_eq_some_iff] at hp1
      obtain ⟨r1,hr1,_⟩:=hp1
      obtain ⟨a1,a2⟩:=hp _ _ _ _ hr1
      simp only [fqO,fpO,fpS,extO,a1,a2]
     ·cases hp1
    | _ => rfl
   ·rw [fqO_some (show fpO pv' nid e o = some (false,[]) by unfold fpO; rw [if_neg hw]),fqO_some (show fpO pv nid e o = some (false,[]) by unfold fpO; rw [if_neg hw])]
  rw [this]
  exact hr
theorem drawn_le {cf cf' : CF} (h : CLe cf cf') {pv pv' : AV → List AV → FP} (hp : ∀ f args H r,cf f args H = some r → pv' f args = pv f args ∧ pv' (.tup [f]) args = pv (.tup [f]) args) {os : List AOper} {prs : List (Nat × Nat)} {e : Env} {H : Heap} {r : Env × Heap} (hr : drawn cf pv os prs e H = some r) : drawn cf' pv' os prs e H = some r:=by
 simp only [drawn,Option.bind_eq_some_iff] at hr ⊢
 obtain ⟨p,hp1,hr⟩:=hr
 exact ⟨p,runs_le h hp _ _ _ _ _ hp1,hr⟩
theorem callF_sub {ft ft' : FT} (hs : Sub ft ft') {ex ex' : EX} (h : ELe ex ex') {k : FuncId} {args : List AV} {H : Heap} {r : AV × Heap} (hr : callF ft ex k args H = some r) : callF ft' ex' k args H = some r:=by
 refine callF_mono h ?_
 unfold callF at hr ⊢
 cases hk : ft k with
 | none => rw [hk] at hr; cases hr
 | some d => rw [hs k d hk]; rw [hk] at hr; exact hr
theorem callV_sub {ft ft' : FT} (hs : Sub ft ft') {ex ex' : EX} (h : ELe ex ex') : CLe (callV ft ex) (callV ft' ex'):=by
 intro f args H r hr
 unfold callV at hr ⊢
 split at hr
 ·exact callF_sub hs h hr
 ·exact roundA_mono h hr
 ·cases hr
theorem exec_sub {ft ft' : FT} (hs : Sub ft ft') : ∀ n,ELe (exec ft n) (exec ft' n):=by
 intro n
 induction n with
 | zero => intro c e H r h; simp [exec] at h
 | succ n ih =>
  intro c e H r h
  rw [exec.eq_def] at h ⊢
  simp only at h ⊢
  cases c with
  | skip => exact h
  | exit id => exact h
  | ret => exact h
  | stop => exact h
  | rangeF f ps asg body =>
   simp only at h ⊢
   split at h
   rotate_left
   ·cases h
   rename_i hg
   rw [if_pos (isGo_sub hs hg)]
   simp only [Option.bind_eq_some_iff] at h ⊢
   obtain ⟨p,hp,hr⟩:=h
   exact ⟨p,callV_sub hs ih _ _ _ _ hp,hr⟩
  | region os draw prs =>
   simp only at h ⊢
   split at h
   ·rename_i hd
    rw [if_pos hd]
    simp only [Option.map_eq_some_iff] at h ⊢
    obtain ⟨p,hp,hr⟩:=h
    exact ⟨p,drawn_le (callV_sub hs ih) (fun f args H r h => ⟨pureV_sub hs h,isExt_sub hs h _⟩) hp,hr⟩
   ·rename_i hd
    rw [if_neg hd]
    simp only [Option.map_eq_some_iff] at h ⊢
    obtain ⟨p,hp,hr⟩:=h
    exact ⟨p,opers_mono (callV_sub hs ih) _ _ _ _ hp,hr⟩
  | seq a b =>
   simp only [Option.bind_eq_some_iff] at h ⊢
   obtain ⟨⟨x,e1,H1⟩,hp,hr⟩:=h
   refine ⟨(x,e1,H1),ih _ _ _ _ hp,?_⟩
   cases x with
   | normal => exact ih _ _ _ _ hr
   | exit id => exact hr
   | ret => exact hr
  | cond o a b =>
   simp only [Option.bind_eq_some_iff] at h ⊢
   obtain ⟨t,ht,hr⟩:=h
   refine ⟨t,ht,?_⟩
   cases t with
   | true => exact ih _ _ _ _ hr
   | false => exact ih _ _ _ _ hr
  | block id c =>
   simp only [Option.map_eq_some_iff] at h ⊢
   obtain ⟨p,hp,hr⟩:=h
   exact ⟨p,ih _ _ _ _ hp,hr⟩
  | loop c =>
   simp only [Option.bind_eq_some_iff] at h ⊢
   obtain ⟨⟨x,e1,H1⟩,hp,hr⟩:=h
   refine ⟨(x,e1,H1),ih _ _ _ _ hp,?_⟩
   cases x with
   | normal => exact ih _ _ _ _ hr
   | exit id => exact hr
   | ret => exact hr
theorem callL_sub {ft ft' : FT} (hs : Sub ft ft') {f : AV} {args : List AV} {H : Heap} {r : AV × Heap} (h : callL ft f args H = some r) : callL ft' f args H = some r:=by
 obtain ⟨n,hn⟩:=callL_some.1 h
 exact callL_some.2 ⟨n,callV_sub hs (exec_sub hs n) _ _ _ _ hn⟩
noncomputable def goP (ft : FT) (k : FuncId) (args : List AV) : Option AV:=if closedL args = true then (callL ft (.fn (.func k) [] []) args Heap.empty).map (·.1) else none
theorem goP_ok {P : Program} (hP : P.follows .mixedOrders = true) {ft : FT} (hft : FTOk P ft) {k : FuncId} (hk : ∃ n rs body,ft k = some (.go true n rs body)) : PPrimOk P k (goP ft k):=by
 intro args r h m F H w vs hI hl hv
 unfold goP at h
 split at h
 rotate_left
 ·cases h
 rename_i hc
 simp only [Option.map_eq_some_iff] at h
 obtain ⟨⟨r',H'⟩,h,rfl⟩:=h
 obtain ⟨n,hn⟩:=callL_some.1 h
 obtain ⟨nt,rs,body,hk⟩:=hk
 have hpv : pureV ft (.fn (.func k) [] []) args = some (false,[]):=by
  unfold pureV isPure
  simp only [List.nil_append,List.append_nil,hk,if_true,sids_closed hc]
  rfl
 have hcp:=(execs_next (ft:=ft) n).2
 have h3 : callV ft (exec ft n) (.fn (.func k) [] []) args H = some (r',H):=by
  obtain ⟨H3,h3,_,h4⟩:=hcp.1 _ _ _ _ _ _ _ hpv hn H (fun _ h => by cases h)
  obtain ⟨_,rfl⟩:=h4 rfl
  exact h3
 have h4 : callF ft (exec ft n) k args H = some (r',H):=by simpa [callV] using h3
 have hcf : CfOk P (callV ft (exec ft n)):=calls_of hft (fun c ac hc e e' H H' x h ro hro b0 m F w a hs hb0 hd => (exec_sound hP hft n c ac hc e e' H H' x h ro hro b0 m F w a hs hb0 hd).1)
 rcases hcf _ _ H H r' h3 m F w (.func (.func k) #[] #[]) vs hI (.fz (.fn rfl rfl (by simp) (by simp))) ⟨hl,fun i c hc => .fz (hv i c hc)⟩ with ⟨k',f',c',he,hcase⟩ | ⟨_,_,_,_,_,he,_⟩
 rotate_left
 ·cases he
 cases he
 simp only [Array.empty_append,Array.append_empty] at hcase
 exact hcase
end Go.VI
namespace Go.VI
def cloF (sz b : Nat) (args : List AV) : Option AV :=
 match args with
 | [.lst []] => some (.lst [])
 | [.lst ((c :: cs) :: r)] => if (r.length + 1) * b ≤ 140737488355328 ∧ allSz sz ((c :: cs) :: r) = true then some (.lst ((c :: cs) :: r)) else none
 | _ => none
theorem cloF_sl {ft : FT} {sz b : Nat} {z : List AV} : SlD ft 8 [.tmp 2] (cloC sz b z) (cloF sz b):=by
 intro args r h
 unfold cloF at h
 split at h
 ·cases h
  exact clo_dx (sz:=sz) (b:=b) ⟨⟨_,rfl⟩,⟨_,rfl⟩⟩
 ·split at h
  rotate_left
  ·cases h
  rename_i c cs rr hc
  cases h
  refine clo_dx (sz:=sz) (b:=b) ⟨_,rfl,by simp,by simpa using hc.1,hc.2,?_⟩
  have e:=frz_sl 23 (hx Heap.empty [.dead,.row false sz ((c :: cs) :: rr)]) 1 0 (List.length ((c :: cs) :: rr))
  have hg : (hx Heap.empty [.dead,.row false sz ((c :: cs) :: rr)]).get 1 = some (.row false sz ((c :: cs) :: rr)):=rfl
  rw [hg] at e
  simp only [Nat.zero_add,Nat.le_refl,if_true,List.drop_zero,List.take_length] at e
  exact ⟨_,e⟩
 ·cases h
theorem cloF_ok {P : Program} (hP : P.follows .mixedOrders = true) {k : FuncId} {sz b : Nat} {z : List AV} (hg : GoFn P k 8 [.tmp 2] (cloC sz b z)) : PPrimOk P k (cloF sz b):=slD_ok hP ft0_ok hg cloF_sl
end Go.VI
namespace Go.VI
abbrev SR:={ p : Int × Int // 0 ≤ p.1 ∧ p.1 ≤ 1000000 }
instance srInh : Inhabited SR:=⟨⟨(0,0),by decide⟩⟩
def srC (x : SR) : List AV:=[.sc (.int .i64 x.1.1),.sc (.int .i64 x.1.2)]
def srCf (x y : SR) : Int:=x.1.1 - y.1.1
def srLt (x y : SR) : Bool:=decide (srCf x y < 0)
def srOf : List AV → Option SR
 | [.sc (.int .i64 a),.sc (.int .i64 b)] => if h : 0 ≤ a ∧ a ≤ 1000000 then some ⟨(a,b),h⟩ else none
 | _ => none
theorem srOf_some {r : List AV} {x : SR} (h : srOf r = some x) : r = srC x:=by
 unfold srOf at h
 split at h
 ·split at h
  ·cases h; rfl
  ·cases h
 ·cases h
def srsOf : List (List AV) → Option (List SR)
 | [] => some []
 | r :: rs => (srOf r).bind fun x => (srsOf rs).map fun l => x :: l
theorem srsOf_some : ∀ {rs : List (List AV)} {l : List SR},srsOf rs = some l → rs = l.map srC
 | [],l,h => by cases h; rfl
 | r :: rs,l,h => by
  simp only [srsOf,Option.bind_eq_some_iff,Option.map_eq_some_iff] at h
  obtain ⟨x,hx,l',hl,rfl⟩:=h
  rw [srOf_some hx,srsOf_some hl]
  rfl
theorem srOf_C (x : SR) : srOf (srC x) = some x:=by
 unfold srOf srC
 simp [x.2]
theorem srsOf_map : ∀ l : List SR,srsOf (l.map srC) = some l
 | [] => rfl
 | x :: l => by simp only [List.map_cons,srsOf,srOf_C,srsOf_map l,Option.bind_some,Option.map_some]
noncomputable def sortL (l : List SR) : List SR:=(Sort.pdq srLt l.toArray 0 l.length (Lib.bitLen l.length) true true).toList
theorem srLt_t {x y : SR} : srLt x y = true ↔ x.1.1 < y.1.1:=by
 unfold srLt srCf
 rw [decide_eq_true_iff]
 omega
theorem srLt_f {x y : SR} : srLt x y = false ↔ y.1.1 ≤ x.1.1:=by
 unfold srLt srCf
 rw [decide_eq_false_iff_not]
 omega
theorem srSWO : Sort.SWO srLt where
 irrefl x:=srLt_f.2 (Int.le_refl _)
 trans x y z h1 h2:=srLt_t.2 (Int.lt_trans (srLt_t.1 h1) (srLt_t.1 h2))
 ntrans x y z h1 h2:=srLt_f.2 (Int.le_trans (srLt_f.1 h2) (srLt_f.1 h1))
theorem sortL_len (l : List SR) : (sortL l).length = l.length:=by
 have h:=(Sort.pdq_sorts srLt srSWO l.toArray 0 l.length (Lib.bitLen l.length) true true (Nat.zero_le _) (by simp) (Or.inl rfl)).1.1
 simpa [sortL] using h
theorem sortL_perm (l : List SR) : (sortL l).Perm l:=by
 have h:=(Sort.pdq_sorts srLt srSWO l.toArray 0 l.length (Lib.bitLen l.length) true true (Nat.zero_le _) (by simp) (Or.inl rfl)).1
 have h3:=h.2.2
 have hs:=h.1
 simp at hs
 have e1 : (Sort.pdq srLt l.toArray 0 l.length (Lib.bitLen l.length) true true).extract 0 l.length = Sort.pdq srLt l.toArray 0 l.length (Lib.bitLen l.length) true true:=by
  have : ∀ (a : Array SR),a.size = l.length → a.extract 0 l.length = a:=fun a ha => by rw [← ha]; simp
  exact this _ hs
 rw [e1] at h3
 simpa [sortL] using h3
theorem sortL_sorted (l : List SR) : ∀ i j (hi : i < j) (hj : j < (sortL l).length),((sortL l)[i]'(by omega)).1.1 ≤ (sortL l)[j].1.1:=by
 intro i j hi hj
 have h:=(Sort.pdq_sorts srLt srSWO l.toArray 0 l.length (Lib.bitLen l.length) true true (Nat.zero_le _) (by simp) (Or.inl rfl)).2
 have hl:=sortL_len l
 have:=h i j (Nat.zero_le _) hi (by omega)
 rw [srLt_f] at this
 have hs : (Sort.pdq srLt l.toArray 0 l.length (Lib.bitLen l.length) true true).size = (sortL l).length:=by simp [sortL]
 have gi : ∀ k (hk : k < (sortL l).length),(Sort.pdq srLt l.toArray 0 l.length (Lib.bitLen l.length) true true)[k]! = (sortL l)[k]:=fun k hk => by
  rw [getElem!_pos _ k (by omega)]
  simp [sortL]
 rw [gi i (by omega),gi j hj] at this
 exact this
noncomputable def sortP (g : FuncId) (args : List AV) (H : Heap) : Option (AV × Heap) :=
 match args with
 | [.sl id 0 len,.fn (.func k) [] []] => if k = g then match H.get id with
   | some (.row false 2 rows) => if len = rows.length ∧ len ≤ 1000000 then (srsOf rows).map fun l => (.tup [],H.set id (.row false 2 ((sortL l).map srC))) else none
   | _ => none
  else none
 | [.sc (.slice none 0 0),.fn (.func k) [] []] => if k = g then some (.tup [],H) else none
 | [.emp,.fn (.func k) [] []] => if k = g then some (.tup [],H) else none
 | _ => none
end Go.VI
namespace Go.VI
theorem sids_emp : sids [.emp] = some []:=rfl
theorem lenV_emp (H : Heap) : lenV H 0 .emp = some (.sc (.int .i64 (0 : Int)),H):=rfl
theorem frz_emp (n : Nat) (H : Heap) : frz (n + 1) H .emp = some (.lst [],H):=rfl
theorem cells_emp : AV.cells .emp = [.emp]:=rfl
theorem one_emp : AV.one .emp = true:=rfl
set_option linter.defProp false in
def vemp:=And.intro @sids_emp <| And.intro @lenV_emp <| And.intro @frz_emp <| And.intro @cells_emp <| And.intro @one_emp @appA_emp
def ecloP (sz b : Nat) (args : List AV) (n : Nat) : Option (AV × List Blk) :=
 match args with
 | [.sc (.slice none 0 0)] => some (.sc (.slice none 0 0),[])
 | [.lst []] => some (.emp,[.dead])
 | [.lst ((c :: cs) :: r)] => if ((c :: cs) :: r).length * b ≤ 140737488355328 ∧ allSz sz ((c :: cs) :: r) = true then some (.sl (n + 1) 0 ((c :: cs) :: r).length,[.dead,.row false sz ((c :: cs) :: r)]) else none
 | _ => none
theorem ecloP_ok {P : Program} (hP : P.follows .mixedOrders = true) {k : FuncId} {sz b : Nat} {z : List AV} (hg : GoFn P k 8 [.tmp 2] (cloC sz b z)) : PrimOk P k fun args H => (ecloP sz b args H.next).map fun (r,L) => (r,⟨H.bs ++ L⟩):=by
 intro args H H' r h
 refine cloP_ok hP hg args H H' r ?_
 simp only [Option.map_eq_some_iff,Prod.mk.injEq] at h
 obtain ⟨⟨r1,L⟩,h1,rfl,rfl⟩:=h
 unfold ecloP at h1
 split at h1
 ·cases h1
  show some (_,H) = some (_,_)
  simp
 ·cases h1
  rfl
 ·rename_i c cs r
  split at h1
  rotate_left
  ·cases h1
  rename_i hc
  cases h1
  unfold cloP
  show ((vRows H H.next (.lst ((c :: cs) :: r))).bind _) = _
  rw [show vRows H H.next (.lst ((c :: cs) :: r)) = some ((c :: cs) :: r) from rfl,Option.bind_some,if_pos ⟨by simp,hc⟩]
  rfl
 ·cases h1
def roP (p : List AV → Option AV) (args : List AV) (H : Heap) : Option (AV × Heap) :=
 (frzCells H args).bind fun q => (p q.1).bind fun r => match r with
  | .sc v => some (.sc v,H)
  | _ => none
theorem Inv.same {P : Program} {m : Mp} {F : Fz} {H : Heap} {w w' : World} (h : Inv P m F H w) (hs : w.heap.size ≤ w'.heap.size) (hb : ∀ b,b < w.heap.size → w'.heap[b]? = w.heap[b]?) : Inv P m F H w' :=
 h.next (MLe.refl m) (FLe.refl F) (fun b o v hv => by
  rw [cell_of_heap (hb b (h.fz_lt hv))]
  exact h.fz b o v hv) (fun j mj hj => ⟨(h.lt j mj hj).1,by have:=(h.lt j mj hj).2; omega⟩)
  (fun j mj B hj hB => .inl ⟨hj,hB,hb _ (h.lt j mj hj).2,fun _ _ hv => hv⟩) h.inj
theorem roP_ok {P : Program} {k : FuncId} {p : List AV → Option AV} (hp : PPrimOk P k p) : PrimOk P k (roP p):=by
 intro args H H' r h m F w vs hI hv
 unfold roP at h
 simp only [Option.bind_eq_some_iff] at h
 obtain ⟨⟨cs,H1⟩,h1,r0,h2,h⟩:=h
 have hr : ∃ v,r0 = .sc v ∧ r = .sc v ∧ H' = H:=by
  split at h
  ·cases h; exact ⟨_,rfl,rfl,rfl⟩
  ·cases h
 obtain ⟨v,rfl,rfl,rfl⟩:=hr
 obtain ⟨F1,o1,hf⟩:=(frz_sound FZ).2 H' H1 F args cs (fun i => vs.getD i undef) h1 hI (fun i c hc => hv.val i c hc)
 have hl : cs.length = args.length:=(frzL_one h1).1
 have hI0 : Inv P (fun _ => none) F1 Heap.empty w :=
  by
  refine ⟨o1.inv.fz,?_,?_,?_⟩
  ·intro id mb h; cases h
  ·intro id mb B h; cases h
  ·intro i j mi mj h; cases h
 have fin : ∀ en w',CallPost P (fun _ => none) F1 Heap.empty w (.sc v) Heap.empty en w' → CallPost P m F H' w (.sc v) H' en w':=by
  intro en w' ⟨u,m',F',he,q1,q2,q3,q4⟩
  obtain ⟨rfl,hs⟩:=vr_sc q1
  have hb : ∀ b,b < w.heap.size → w'.heap[b]? = w.heap[b]?:=fun b hb => q3.blk b hb (by intro id mb h; cases h)
  exact ⟨_,m,F,he,.fz (.sc hs),hI.same q3.sz hb,⟨MLe.refl m,FLe.refl F,q3.sz,q3.tape,q3.os,q3.out,fun b h _ => hb b h,fun _ _ h => .inl h,fun _ _ _ h => .inl h⟩,Grew.refl m H'⟩
 rcases hp cs (.sc v) h2 (fun _ => none) F1 Heap.empty w vs hI0 (by rw [hl]; exact hv.len) hf with ⟨c1,c2⟩ | ⟨u,w',c1,c2⟩
 ·exact .inl ⟨c1,c2.mono fun en w' hc => fin en w' hc⟩
 ·exact .inr ⟨u,w',c1,fin _ _ c2⟩
end Go.VI
