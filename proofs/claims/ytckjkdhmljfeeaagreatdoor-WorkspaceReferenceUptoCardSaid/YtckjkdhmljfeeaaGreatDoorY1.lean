/- Y1: joined from XT1. -/
import Derived.Test.YtckjkdhmljfeeaaGreatDoorX14
import Derived.Test.YtckjkdhmljfeeaaGreatDoorProg
/- The examples, run. -/
set_option maxRecDepth 100000
namespace Go.Proofs.YtckjkdhmljfeeaaGreatDoor
open Go Go.Ev
theorem mixedX : Tryz.prog.follows .mixedOrders = true := by kernel_rfl
theorem noNG_ok : noNG Tryz.prog := fun f fn h => by
  have hall : Tryz.prog.funcs.toList.all (fun fn => !(fn.name == "runtime.NumGoroutine")) = true := by kernel_rfl
  rw [List.all_eq_true] at hall
  have := hall fn (Array.mem_toList_iff.2 (Array.mem_of_getElem? h))
  simpa using this
theorem glb_ok : glbOk 9 Ab.laidL = true := by kernel_rfl
/- glossator/lexer.Keywords -/
def tm75 : Tm := ⟨75, [], (.sl 9 0 22 1 (some 22)),
  [(9, ⟨false, 9, [(.v (.string ⟨#[117, 115, 101]⟩)), (.v (.string ⟨#[112, 117, 98]⟩)), (.v (.string ⟨#[97, 115]⟩)), (.v (.string ⟨#[102, 110]⟩)), (.v (.string ⟨#[115, 116, 114, 117, 99, 116]⟩)), (.v (.string ⟨#[101, 110, 117, 109]⟩)), (.v (.string ⟨#[116, 114, 97, 105, 116]⟩)), (.v (.string ⟨#[105, 109, 112, 108]⟩)), (.v (.string ⟨#[102, 111, 114]⟩)), (.v (.string ⟨#[99, 111, 110, 115, 116]⟩)), (.v (.string ⟨#[109, 97, 99, 114, 111]⟩)), (.v (.string ⟨#[108, 101, 116]⟩)), (.v (.string ⟨#[109, 117, 116]⟩)), (.v (.string ⟨#[119, 104, 105, 108, 101]⟩)), (.v (.string ⟨#[114, 101, 116, 117, 114, 110]⟩)), (.v (.string ⟨#[109, 97, 116, 99, 104]⟩)), (.v (.string ⟨#[105, 102]⟩)), (.v (.string ⟨#[101, 108, 115, 101]⟩)), (.v (.string ⟨#[110, 101, 119]⟩)), (.v (.string ⟨#[116, 114, 117, 101]⟩)), (.v (.string ⟨#[102, 97, 108, 115, 101]⟩)), (.v (.string ⟨#[116, 121, 112, 101]⟩))]⟩)], 1⟩
/- glossator/parser.itemKeywords -/
def tm122 : Tm := ⟨122, [], (.sl 9 0 9 1 (some 9)),
  [(9, ⟨false, 9, [(.v (.string ⟨#[117, 115, 101]⟩)), (.v (.string ⟨#[112, 117, 98]⟩)), (.v (.string ⟨#[102, 110]⟩)), (.v (.string ⟨#[115, 116, 114, 117, 99, 116]⟩)), (.v (.string ⟨#[101, 110, 117, 109]⟩)), (.v (.string ⟨#[116, 114, 97, 105, 116]⟩)), (.v (.string ⟨#[105, 109, 112, 108]⟩)), (.v (.string ⟨#[99, 111, 110, 115, 116]⟩)), (.v (.string ⟨#[109, 97, 99, 114, 111]⟩))]⟩)], 1⟩
theorem tm75_ok : TmOk Tryz.prog 9 tm75 := tm_ok (n := 300) mixedX noNG_ok noOrc_ok glb_ok rfl (by kernel_rfl)
theorem tm122_ok : TmOk Tryz.prog 9 tm122 := tm_ok (n := 300) mixedX noNG_ok noOrc_ok glb_ok rfl (by kernel_rfl)
def tms : List Tm := [tm75, tm122]
theorem tms_ok : CallsOk Tryz.prog 9 (orcT 9 tms) := orcT_ok fun t ht => by
  simp only [tms, List.mem_cons, List.not_mem_nil, or_false] at ht
  rcases ht with rfl | rfl
  · exact tm75_ok
  · exact tm122_ok
end Go.Proofs.YtckjkdhmljfeeaaGreatDoor
